/- For every input the statement of this claim returns true: texts of its proof, joined (part 7). -/
import Derived.Test.YtjliejhcjeodfaaProg
import Derived.KernelRfl
import Derived.ProofKit
import Derived.Test.YtjliejhcjeodfaaEA3
import Derived.Test.YtjliejhcjeodfaaGA04
import Derived.Test.YtjliejhcjeodfaaSKA
set_option linter.unusedSectionVars false
set_option linter.unusedSimpArgs false
set_option linter.unusedVariables false
open Nat renaming reduceEqDiff → wa, reduceLT → we, reduceAdd → wh, le_refl → wv
open _root_ renaming reduceCtorEq → wc, reduceIte → wd
open Go.Ev.SObj renaming lo → wf
open Go.Ev renaming ev1 → wg, stP → wC
open List renaming map_set → wi, getElem?_set_ne → wj, append_assoc → wl, getElem?_set_self → wn, take_append_drop → wo, drop_eq_getElem_cons → wr, mem_iff_getElem? → wu, getElem?_eq_some_iff → ww, getElem?_take_of_lt → wx, pairwise_singleton → wz, mem_append → wA, perm_middle → wB, mem_cons_of_mem → wE, mem_append_left → wG, set_append → wH, getElem?_drop → wI
open Go.Ev.AV renaming plain → wk, cells → wm, uc → wt
open List.Perm renaming append_left → wq, trans → wD
open Int renaming reduceEq → wy, tdiv_eq_ediv_of_nonneg → wF
namespace Go.Proofs.Ytjliejhcjeodfaa.K
open Go.Ev
set_option maxRecDepth 100000
theorem qh9:qez Try.prog { frz:=[6,9] } qa2=some qa3:=by kernel_rfl
theorem qk2:qez Try.prog { frz:=[5] } qci=some qd8:=by kernel_rfl
theorem qnm:qez Try.prog { loops:=[([3,9,12,13,15,16],true),([3,9,12,13,15,16,17,18,20],true)] } qdp=some qeg:=by kernel_rfl
theorem qlu:qez Try.prog {  } qco=some qb2:=by kernel_rfl
theorem qnf:qez Try.prog { loops:=[([7,8,9,10,13,15],true)] } qda=some qd6:=by kernel_rfl
theorem quc:qez Try.prog {  } qdj=some ql4:=by kernel_rfl
theorem qta:qez Try.prog { frz:=[1] } qe6=some qf4:=by kernel_rfl
theorem qv7:qez Try.prog { mI:=[29],ownB:=[(15,(1,1))],loops:=[([2,4,16,17],true)] } qel=some qhk:=by kernel_rfl
theorem qwd:qez Try.prog { ownB:=[(13,(0,4)),(13,(1,1))],loops:=[([0,2,4,5],true)] } qe9=some qho:=by kernel_rfl
theorem qun:qez Try.prog { frz:=[2,3],loops:=[([2,3,5],true),([2,3,6],true)] } qbf=some qeb:=by kernel_rfl
theorem qtd:qez Try.prog { frz:=[1],frzv:=[54],own:=[3],loops:=[([1,3,4,20,21,22],true)] } qbv=some qfa:=by kernel_rfl
theorem qtg:qez Try.prog { frz:=[1],loops:=[([1,3],true),([1,3,4,5],true)] } qde=some qdf:=by kernel_rfl
theorem qud:qez Try.prog { loops:=[([1,4,6,8,9],true)] } qdn=some qj0:=by kernel_rfl
theorem qur:qez Try.prog {  } qc2=some qgz:=by kernel_rfl
theorem qtk:qez Try.prog { frz:=[2,3],mA:=[45],mI:=[39] } qbg=some qfb:=by kernel_rfl
theorem qsx:qez Try.prog { frz:=[2],appF:=[55] } qdw=some qdx:=by kernel_rfl
theorem qnx:qez Try.prog { frz:=[4,7] } qao=some qcv:=by kernel_rfl
theorem qn5:qez Try.prog { frz:=[4] } qbu=some qcg:=by kernel_rfl
theorem qql:qez Try.prog { frz:=[2],mA:=[32] } qa0=some qer:=by kernel_rfl
theorem qp9:qez Try.prog { frz:=[2],appN:=[37] } qc1=some qd4:=by kernel_rfl
theorem qru:qez Try.prog { frz:=[2] } qbp=some qgd:=by kernel_rfl
theorem qsm:qez Try.prog { frz:=[2] } qej=some qgh:=by kernel_rfl
theorem qvf:qez Try.prog { frz:=[1],loops:=[([3,7,8,9],true)] } qc3=some qjs:=by kernel_rfl
theorem qul:qez Try.prog { frz:=[1],loops:=[([1,3,4],true)] } qex=some qjy:=by kernel_rfl
theorem que:qez Try.prog { frz:=[3,5],appN:=[37],appB:=[(40,9)],ldB:=[(34,9)] } qey=some qdz:=by kernel_rfl
theorem qjl:qez Try.prog { loops:=[([0,2,3],true)] } qa6=some qdg:=by kernel_rfl
theorem qr5:qez Try.prog {  } qaw=some qhw:=by kernel_rfl
theorem qts:qez Try.prog { frz:=[2] } qe1=some qcy:=by kernel_rfl
theorem qkv:qez Try.prog { loops:=[([0,1,12,13],true)] } qbi=some qb7:=by kernel_rfl
theorem qng:qez Try.prog { mI:=[5,7] } qcl=some qe2:=by kernel_rfl
theorem qj7:qez Try.prog { frz:=[1] } qbc=some qdq:=by kernel_rfl
theorem qut:qez Try.prog { frz:=[2] } qfp=some qb3:=by kernel_rfl
theorem qpp:qez Try.prog { loops:=[([0,1,5],true)] } qdt=some qfe:=by kernel_rfl
theorem qss:qez Try.prog { mA:=[9] } qb5=some qgi:=by kernel_rfl
theorem qqh:qez Try.prog { ldF:=[7],ldB:=[(8,2)],stA:=[(10,2),(12,2)] } qdk=some qhb:=by kernel_rfl
theorem qs2:qez Try.prog {  } qfc=some qir:=by kernel_rfl
theorem qu2:qez Try.prog { frz:=[5],appN:=[11],frzv:=[16] } qef=some qj1:=by kernel_rfl
theorem quz:qez Try.prog {  } qfy=some qjz:=by kernel_rfl
theorem qtn:qez Try.prog { frz:=[2] } qdy=some qf2:=by kernel_rfl
theorem ql8:qez Try.prog {  } qcf=some qeo:=by kernel_rfl
theorem qup:qez Try.prog { frz:=[2] } qee=some qew:=by kernel_rfl
theorem qol:qez Try.prog {  } qdb=some qf0:=by kernel_rfl
theorem qma:qez Try.prog { mI:=[4] } qce=some qen:=by kernel_rfl
theorem qk8:qez Try.prog { mI:=[10] } qbt=some qea:=by kernel_rfl
theorem qi2:qez Try.prog { loops:=[([0,5,6,7],true)] } qy=some qc5:=by kernel_rfl
theorem qtc:qez Try.prog {  } qfd=some qiy:=by kernel_rfl
theorem qna:qez Try.prog {  } qcm=some qe3:=by kernel_rfl
theorem qus:qez Try.prog {  } qfq=some qh3:=by kernel_rfl
theorem qnv:qez Try.prog {  } qcx=some qed:=by kernel_rfl
theorem qit:qez Try.prog { own:=[2],loops:=[([2],true)] } qa1=some qcw:=by kernel_rfl
theorem qip:qez Try.prog { mI:=[27,33,39,46,54,72,92,99,121,132],loops:=[([0,1,2,3,8,9],true)] } qac=some qc0:=by kernel_rfl
theorem qqg:qez Try.prog {  } qct=some qjj:=by kernel_rfl
theorem qsf:qez Try.prog {  } qdd=some qeh:=by kernel_rfl
theorem qm5:qez Try.prog {  } qb1=some qe7:=by kernel_rfl
theorem qmr:qez Try.prog {  } qbq=some qep:=by kernel_rfl
theorem qtm:qez Try.prog {  } qec=some qiz:=by kernel_rfl
theorem qg3:qez Try.prog { loops:=[([0,1,2,6],true),([0,1,2,6,7],true)] } qab=some qbw:=by kernel_rfl
theorem qie:qez Try.prog { mI:=[26,55],loops:=[([0,6,7,8,9],true),([0,6,7,10],true)] } qav=some qcq:=by kernel_rfl
theorem qg1:qez Try.prog { mI:=[36],loops:=[([0,1,6,7,8,9],true)] } qad=some qby:=by kernel_rfl
theorem qhg:qez Try.prog { mI:=[37,40,43,48] } qai=some qw:=by kernel_rfl
theorem qg5:qez Try.prog { loops:=[([0,6,7],true)] } qae=some qb0:=by kernel_rfl
theorem qfj:qez Try.prog { loops:=[([0,1,2,7,8],true),([0,1,2,7,8],true),([0,1,2,7,8,9],true),([0,1,2,7,8,10],true)] } qt=some qaj:=by kernel_rfl
theorem qsc:qez Try.prog {  } qaf=some qgb:=by kernel_rfl
theorem qgn:qez Try.prog { loops:=[([0,1,9,10],true),([0,1,9,10],true),([0,1,9,10],true)] } qz=some qbm:=by kernel_rfl
theorem qic:qez Try.prog { loops:=[([0,1,10,11],true),([0,1,10,11],true),([0,1,10,11],true),([0,1,10,11],true),([0,1,10,11],true)] } qar=some qbl:=by kernel_rfl
theorem qoj:qez Try.prog {  } qd0=some qhp:=by kernel_rfl
theorem qot:qez Try.prog {  } qd1=some qhm:=by kernel_rfl
theorem qrq:qez Try.prog {  } qei=some qh0:=by kernel_rfl
theorem qim:qez Try.prog { loops:=[([0,2,3,8],true)] } qah=some qbx:=by kernel_rfl
theorem qk0:qez Try.prog {  } qa4=some qe4:=by kernel_rfl
theorem qle:qez Try.prog {  } qbr=some qd9:=by kernel_rfl
theorem qgp:qez Try.prog { mI:=[14] } qr=some qbo:=by kernel_rfl
theorem qjd:qez Try.prog { mI:=[16,24,32] } qas=some qc6:=by kernel_rfl
theorem qqj:qez Try.prog {  } qdh=some qg8:=by kernel_rfl
theorem qi3:qez Try.prog {  } qag=some qcb:=by kernel_rfl
theorem qj4:qsn Try.prog qbj=some (1,8):=by kernel_rfl
theorem qgt:qsn Try.prog qa5=some (4,32):=by kernel_rfl
def codeL:List (Nat×CFunc):=[(qa2,qa3),(qci,qd8),(qdp,qeg),(qco,qb2),(qda,qd6),(qdj,ql4),(qe6,qf4),(qel,qhk),(qe9,qho),(qbf,qeb),(qbv,qfa),(qde,qdf),(qdn,qj0),(qc2,qgz),(qbg,qfb),(qdw,qdx),(qao,qcv),(qbu,qcg),(qa0,qer),(qc1,qd4),(qbp,qgd),(qej,qgh),(qc3,qjs),(qex,qjy),(qey,qdz),(qa6,qdg),(qaw,qhw),(qe1,qcy),(qbi,qb7),(qcl,qe2),(qbc,qdq),(qfp,qb3),(qdt,qfe),(qb5,qgi),(qdk,qhb),(qfc,qir),(qef,qj1),(qfy,qjz),(qdy,qf2),(qcf,qeo),(qee,qew),(qdb,qf0),(qce,qen),(qbt,qea),(qy,qc5),(qfd,qiy),(qcm,qe3),(qfq,qh3),(qcx,qed),(qa1,qcw),(qac,qc0),(qct,qjj),(qdd,qeh),(qb1,qe7),(qbq,qep),(qec,qiz),(qab,qbw),(qav,qcq),(qad,qby),(qai,qw),(qae,qb0),(qt,qaj),(qaf,qgb),(qz,qbm),(qar,qbl),(qd0,qhp),(qd1,qhm),(qei,qh0),(qah,qbx),(qa4,qe4),(qbr,qd9),(qr,qbo),(qas,qc6),(qdh,qg8),(qag,qcb)]
def extL:List (Nat×(Nat×Nat)):=[(qbj,(1,8)),(qa5,(4,32))]
def qyf {α:Type}:List (Nat×α)→Nat→Option α
 | [],_=>none
 |(k,x)::l,i=>if k=i then some x else qyf l i
theorem qrm {α:Type} : ∀ {l:List (Nat×α)} {i:Nat} {x:α},qyf l i=some x→(i,x)∈l
 | [],_,_,h=>by simp[qyf]at h
 |(k,y)::l,i,x,h=>by
  simp only[qyf]at h
  split at h
  ·rename_i hk;subst hk;cases h;simp
  ·exact wE _ (qrm h)
def T:Tab:={ code:=qyf codeL,ext:=fun k=>(qyf extL k).map fun p=>qq4 p.1 p.2 }
theorem codeL_ok : ∀x∈codeL,∃h,qez Try.prog h x.1=some x.2:=by
 intro x hx
 simp only[codeL,List.mem_cons,List.not_mem_nil,or_false]at hx
 rcases hx with rfl|rfl|rfl|rfl|rfl|rfl|rfl|rfl|rfl|rfl|rfl|rfl|rfl|rfl|rfl|rfl|rfl|rfl|rfl|rfl|rfl|rfl|rfl|rfl|rfl|rfl|rfl|rfl|rfl|rfl|rfl|rfl|rfl|rfl|rfl|rfl|rfl|rfl|rfl|rfl|rfl|rfl|rfl|rfl|rfl|rfl|rfl|rfl|rfl|rfl|rfl|rfl|rfl|rfl|rfl|rfl|rfl|rfl|rfl|rfl|rfl|rfl|rfl|rfl|rfl|rfl|rfl|rfl|rfl|rfl|rfl|rfl|rfl|rfl|rfl
 ·exact⟨_,qh9⟩
 ·exact⟨_,qk2⟩
 ·exact⟨_,qnm⟩
 ·exact⟨_,qlu⟩
 ·exact⟨_,qnf⟩
 ·exact⟨_,quc⟩
 ·exact⟨_,qta⟩
 ·exact⟨_,qv7⟩
 ·exact⟨_,qwd⟩
 ·exact⟨_,qun⟩
 ·exact⟨_,qtd⟩
 ·exact⟨_,qtg⟩
 ·exact⟨_,qud⟩
 ·exact⟨_,qur⟩
 ·exact⟨_,qtk⟩
 ·exact⟨_,qsx⟩
 ·exact⟨_,qnx⟩
 ·exact⟨_,qn5⟩
 ·exact⟨_,qql⟩
 ·exact⟨_,qp9⟩
 ·exact⟨_,qru⟩
 ·exact⟨_,qsm⟩
 ·exact⟨_,qvf⟩
 ·exact⟨_,qul⟩
 ·exact⟨_,que⟩
 ·exact⟨_,qjl⟩
 ·exact⟨_,qr5⟩
 ·exact⟨_,qts⟩
 ·exact⟨_,qkv⟩
 ·exact⟨_,qng⟩
 ·exact⟨_,qj7⟩
 ·exact⟨_,qut⟩
 ·exact⟨_,qpp⟩
 ·exact⟨_,qss⟩
 ·exact⟨_,qqh⟩
 ·exact⟨_,qs2⟩
 ·exact⟨_,qu2⟩
 ·exact⟨_,quz⟩
 ·exact⟨_,qtn⟩
 ·exact⟨_,ql8⟩
 ·exact⟨_,qup⟩
 ·exact⟨_,qol⟩
 ·exact⟨_,qma⟩
 ·exact⟨_,qk8⟩
 ·exact⟨_,qi2⟩
 ·exact⟨_,qtc⟩
 ·exact⟨_,qna⟩
 ·exact⟨_,qus⟩
 ·exact⟨_,qnv⟩
 ·exact⟨_,qit⟩
 ·exact⟨_,qip⟩
 ·exact⟨_,qqg⟩
 ·exact⟨_,qsf⟩
 ·exact⟨_,qm5⟩
 ·exact⟨_,qmr⟩
 ·exact⟨_,qtm⟩
 ·exact⟨_,qg3⟩
 ·exact⟨_,qie⟩
 ·exact⟨_,qg1⟩
 ·exact⟨_,qhg⟩
 ·exact⟨_,qg5⟩
 ·exact⟨_,qfj⟩
 ·exact⟨_,qsc⟩
 ·exact⟨_,qgn⟩
 ·exact⟨_,qic⟩
 ·exact⟨_,qoj⟩
 ·exact⟨_,qot⟩
 ·exact⟨_,qrq⟩
 ·exact⟨_,qim⟩
 ·exact⟨_,qk0⟩
 ·exact⟨_,qle⟩
 ·exact⟨_,qgp⟩
 ·exact⟨_,qjd⟩
 ·exact⟨_,qqj⟩
 ·exact⟨_,qi3⟩
theorem extL_ok : ∀x∈extL,qsn Try.prog x.1=some x.2:=by
 intro x hx
 simp only[extL,List.mem_cons,List.not_mem_nil,or_false]at hx
 rcases hx with rfl|rfl
 ·exact qj4
 ·exact qgt
theorem mixed:Try.prog.follows .mixedOrders=true:=by kernel_rfl
theorem T_ok:TabOk Try.prog T where
 code k f h:=codeL_ok _ (qrm h)
 ext k F h:=by
  simp only[T,Option.map_eq_some_iff]at h
  obtain⟨p,h1,rfl⟩:=h
  exact clone_ok mixed (extL_ok _ (qrm h1))
 ins k p h:=by cases h
 mixed:=mixed
theorem qc4:T.code qa2=some qa3:=rfl
theorem qf9:T.code qci=some qd8:=rfl
theorem qh7:T.code qdp=some qeg:=rfl
theorem qg0:T.code qco=some qb2:=rfl
theorem qhi:T.code qda=some qd6:=rfl
theorem q0h:T.code qdj=some ql4:=rfl
theorem qqf:T.code qe6=some qf4:=rfl
theorem qs1:T.code qel=some qhk:=rfl
theorem qsw:T.code qe9=some qho:=rfl
theorem qq5:T.code qbf=some qeb:=rfl
theorem qgk:T.code qbv=some qfa:=rfl
theorem qdu:T.code qde=some qdf:=rfl
theorem qsa:T.code qdn=some qj0:=rfl
theorem qrb:T.code qc2=some qgz:=rfl
theorem qqe:T.code qbg=some qfb:=rfl
theorem qqc:T.code qdw=some qdx:=rfl
theorem qmo:T.code qao=some qcv:=rfl
theorem ql1:T.code qbu=some qcg:=rfl
theorem qog:T.code qa0=some qer:=rfl
theorem qoo:T.code qc1=some qd4:=rfl
theorem qo6:T.code qbp=some qgd:=rfl
theorem qpa:T.code qej=some qgh:=rfl
theorem qro:T.code qc3=some qjs:=rfl
theorem qq7:T.code qex=some qjy:=rfl
theorem qhd:T.code qey=some qdz:=rfl
theorem qiu:T.code qa6=some qdg:=rfl
theorem qo4:T.code qaw=some qhw:=rfl
theorem qqn:T.code qe1=some qcy:=rfl
theorem qjn:T.code qbi=some qb7:=rfl
theorem qlv:T.code qcl=some qe2:=rfl
theorem qi4:T.code qbc=some qdq:=rfl
theorem qrw:T.code qfp=some qb3:=rfl
theorem qny:T.code qdt=some qfe:=rfl
theorem qkk:T.code qb5=some qgi:=rfl
theorem qov:T.code qdk=some qhb:=rfl
theorem qp7:T.code qfc=some qir:=rfl
theorem qsk:T.code qef=some qj1:=rfl
theorem qq8:T.code qfy=some qjz:=rfl
theorem qll:T.code qdy=some qf2:=rfl
theorem qlg:T.code qcf=some qeo:=rfl
theorem qre:T.code qee=some qew:=rfl
theorem qnd:T.code qdb=some qf0:=rfl
theorem qld:T.code qce=some qen:=rfl
theorem qkb:T.code qbt=some qea:=rfl
theorem qik:T.code qy=some qc5:=rfl
theorem qqa:T.code qfd=some qiy:=rfl
theorem qlt:T.code qcm=some qe3:=rfl
theorem qsh:T.code qfq=some qh3:=rfl
theorem qml:T.code qcx=some qed:=rfl
theorem qh6:T.code qa1=some qcw:=rfl
theorem qh2:T.code qac=some qc0:=rfl
theorem qxv:T.code qct=some qjj:=rfl
theorem qk1:T.code qdd=some qeh:=rfl
theorem qlr:T.code qb1=some qe7:=rfl
theorem qk5:T.code qbq=some qep:=rfl
theorem qqi:T.code qec=some qiz:=rfl
theorem qgg:T.code qab=some qbw:=rfl
theorem qhl:T.code qav=some qcq:=rfl
theorem qgf:T.code qad=some qby:=rfl
theorem qam:T.code qai=some qw:=rfl
theorem qgo:T.code qae=some qb0:=rfl
theorem qe8:T.code qt=some qaj:=rfl
theorem qpl:T.code qaf=some qgb:=rfl
theorem qf8:T.code qz=some qbm:=rfl
theorem qem:T.code qar=some qbl:=rfl
theorem qwn:T.code qd0=some qhp:=rfl
theorem qwl:T.code qd1=some qhm:=rfl
theorem qo5:T.code qei=some qh0:=rfl
theorem qht:T.code qah=some qbx:=rfl
theorem qst:T.code qa4=some qe4:=rfl
theorem qj5:T.code qbr=some qd9:=rfl
theorem qf7:T.code qr=some qbo:=rfl
theorem qij:T.code qas=some qc6:=rfl
theorem qoc:T.code qdh=some qg8:=rfl
theorem qfh:T.code qag=some qcb:=rfl
theorem qes:T.ext qa2=none∧T.ins qa2=none:=⟨rfl,rfl⟩
theorem qkj:T.ext qci=none∧T.ins qci=none:=⟨rfl,rfl⟩
theorem qnc:T.ext qdp=none∧T.ins qdp=none:=⟨rfl,rfl⟩
theorem qlb:T.ext qco=none∧T.ins qco=none:=⟨rfl,rfl⟩
theorem qmh:T.ext qda=none∧T.ins qda=none:=⟨rfl,rfl⟩
theorem ext_law05_head:T.ext qdj=none∧T.ins qdj=none:=⟨rfl,rfl⟩
theorem qsb:T.ext qe6=none∧T.ins qe6=none:=⟨rfl,rfl⟩
theorem qu5:T.ext qel=none∧T.ins qel=none:=⟨rfl,rfl⟩
theorem qva:T.ext qe9=none∧T.ins qe9=none:=⟨rfl,rfl⟩
theorem qs9:T.ext qbf=none∧T.ins qbf=none:=⟨rfl,rfl⟩
theorem qg4:T.ext qbv=none∧T.ins qbv=none:=⟨rfl,rfl⟩
theorem qd3:T.ext qde=none∧T.ins qde=none:=⟨rfl,rfl⟩
theorem qtl:T.ext qdn=none∧T.ins qdn=none:=⟨rfl,rfl⟩
theorem qth:T.ext qc2=none∧T.ins qc2=none:=⟨rfl,rfl⟩
theorem qrr:T.ext qbg=none∧T.ins qbg=none:=⟨rfl,rfl⟩
theorem qsd:T.ext qdw=none∧T.ins qdw=none:=⟨rfl,rfl⟩
theorem qm6:T.ext qao=none∧T.ins qao=none:=⟨rfl,rfl⟩
theorem qm9:T.ext qbu=none∧T.ins qbu=none:=⟨rfl,rfl⟩
theorem qpo:T.ext qa0=none∧T.ins qa0=none:=⟨rfl,rfl⟩
theorem qo3:T.ext qc1=none∧T.ins qc1=none:=⟨rfl,rfl⟩
theorem qqb:T.ext qbp=none∧T.ins qbp=none:=⟨rfl,rfl⟩
theorem qp3:T.ext qej=none∧T.ins qej=none:=⟨rfl,rfl⟩
theorem qs8:T.ext qc3=none∧T.ins qc3=none:=⟨rfl,rfl⟩
theorem qtj:T.ext qex=none∧T.ins qex=none:=⟨rfl,rfl⟩
theorem qhz:T.ext qey=none∧T.ins qey=none:=⟨rfl,rfl⟩
theorem qjf:T.ext qa6=none∧T.ins qa6=none:=⟨rfl,rfl⟩
theorem qp5:T.ext qaw=none∧T.ins qaw=none:=⟨rfl,rfl⟩
theorem qra:T.ext qe1=none∧T.ins qe1=none:=⟨rfl,rfl⟩
theorem qkf:T.ext qbi=none∧T.ins qbi=none:=⟨rfl,rfl⟩
theorem qmq:T.ext qcl=none∧T.ins qcl=none:=⟨rfl,rfl⟩
theorem qjm:T.ext qbc=none∧T.ins qbc=none:=⟨rfl,rfl⟩
theorem qtf:T.ext qfp=none∧T.ins qfp=none:=⟨rfl,rfl⟩
theorem qor:T.ext qdt=none∧T.ins qdt=none:=⟨rfl,rfl⟩
theorem qlk:T.ext qb5=none∧T.ins qb5=none:=⟨rfl,rfl⟩
theorem qo2:T.ext qdk=none∧T.ins qdk=none:=⟨rfl,rfl⟩
theorem qrh:T.ext qfc=none∧T.ins qfc=none:=⟨rfl,rfl⟩
theorem qs4:T.ext qef=none∧T.ins qef=none:=⟨rfl,rfl⟩
theorem qs3:T.ext qfy=none∧T.ins qfy=none:=⟨rfl,rfl⟩
theorem ql2:T.ext qdy=none∧T.ins qdy=none:=⟨rfl,rfl⟩
theorem qlp:T.ext qcf=none∧T.ins qcf=none:=⟨rfl,rfl⟩
theorem qsv:T.ext qee=none∧T.ins qee=none:=⟨rfl,rfl⟩
theorem qnz:T.ext qdb=none∧T.ins qdb=none:=⟨rfl,rfl⟩
theorem qls:T.ext qce=none∧T.ins qce=none:=⟨rfl,rfl⟩
theorem qkq:T.ext qbt=none∧T.ins qbt=none:=⟨rfl,rfl⟩
theorem qfm:T.ext qy=none∧T.ins qy=none:=⟨rfl,rfl⟩
theorem qrl:T.ext qfd=none∧T.ins qfd=none:=⟨rfl,rfl⟩
theorem ql6:T.ext qcm=none∧T.ins qcm=none:=⟨rfl,rfl⟩
theorem qtq:T.ext qfq=none∧T.ins qfq=none:=⟨rfl,rfl⟩
theorem qm8:T.ext qcx=none∧T.ins qcx=none:=⟨rfl,rfl⟩
theorem qii:T.ext qa1=none∧T.ins qa1=none:=⟨rfl,rfl⟩
theorem qih:T.ext qac=none∧T.ins qac=none:=⟨rfl,rfl⟩
theorem qyy:T.ext qct=none∧T.ins qct=none:=⟨rfl,rfl⟩
theorem qlj:T.ext qdd=none∧T.ins qdd=none:=⟨rfl,rfl⟩
theorem ql5:T.ext qb1=none∧T.ins qb1=none:=⟨rfl,rfl⟩
theorem qlq:T.ext qbq=none∧T.ins qbq=none:=⟨rfl,rfl⟩
theorem qq1:T.ext qec=none∧T.ins qec=none:=⟨rfl,rfl⟩
theorem qgm:T.ext qab=none∧T.ins qab=none:=⟨rfl,rfl⟩
theorem qh8:T.ext qav=none∧T.ins qav=none:=⟨rfl,rfl⟩
theorem qgr:T.ext qad=none∧T.ins qad=none:=⟨rfl,rfl⟩
theorem qap:T.ext qai=none∧T.ins qai=none:=⟨rfl,rfl⟩
theorem qg2:T.ext qae=none∧T.ins qae=none:=⟨rfl,rfl⟩
theorem qff:T.ext qt=none∧T.ins qt=none:=⟨rfl,rfl⟩
theorem qqd:T.ext qaf=none∧T.ins qaf=none:=⟨rfl,rfl⟩
theorem qge:T.ext qz=none∧T.ins qz=none:=⟨rfl,rfl⟩
theorem qet:T.ext qar=none∧T.ins qar=none:=⟨rfl,rfl⟩
theorem qwo:T.ext qd0=none∧T.ins qd0=none:=⟨rfl,rfl⟩
theorem qwz:T.ext qd1=none∧T.ins qd1=none:=⟨rfl,rfl⟩
theorem qp6:T.ext qei=none∧T.ins qei=none:=⟨rfl,rfl⟩
theorem qh4:T.ext qah=none∧T.ins qah=none:=⟨rfl,rfl⟩
theorem qtb:T.ext qa4=none∧T.ins qa4=none:=⟨rfl,rfl⟩
theorem qkz:T.ext qbr=none∧T.ins qbr=none:=⟨rfl,rfl⟩
theorem qga:T.ext qr=none∧T.ins qr=none:=⟨rfl,rfl⟩
theorem qiq:T.ext qas=none∧T.ins qas=none:=⟨rfl,rfl⟩
theorem qo8:T.ext qdh=none∧T.ins qdh=none:=⟨rfl,rfl⟩
theorem qfk:T.ext qag=none∧T.ins qag=none:=⟨rfl,rfl⟩
theorem qkg:T.ext qbj=some (qq4 1 8):=rfl
theorem qgq:T.ext qa5=some (qq4 4 32):=rfl
def qk (n:Int):List AV:=[(ii n)]
theorem int_lo (n:Nat) (x:Int):los n (qk x)=true:=rfl
theorem int_pl (x:Int):(qk x).length=1∧qdc (qk x)=true:=⟨rfl,rfl⟩
theorem qe (n:Nat) (l:List Int):qjv n (l.map qk)=true:=qqu (int_lo n) l
theorem qo1 (l:List Int):qdm 1 (l.map qk)=true:=qoz int_pl l
end Go.Proofs.Ytjliejhcjeodfaa.K
namespace Go.Ev
section
variable {α:Type}
theorem qvg {D L M:List α} {x:α} {n:Nat} (h:D=L++x::M) (hn:n=L.length):D[n]? = some x:=by
 subst h hn;simp
theorem qks {D L X M:List α} {i n:Nat} (h:D=L++(X++M)) (hi:i<X.length) (hn:n=L.length+i):D[n]? = X[i]?:=by
 subst h hn
 rw[List.getElem?_append_right (by omega),List.getElem?_append_left (by omega)]
 congr 1;omega
theorem qsg {D L M:List α} {x y:α} {n m:Nat} (h:D=L++y::x::M) (hn:n=L.length) (hm:m=n+1):(D.set m y).set n x=L++x::y::M:=by
 subst h hm hn;simp[]
theorem qui {D L M N:List α} {x y:α} {n m:Nat} (h:D=L++x::(M++y::N)) (hn:n=L.length) (hm:m=n+1+M.length):(D.set n y).set m x=L++y::(M++x::N):=by
 subst h hm hn
 rw[wH,if_neg (Nat.lt_irrefl _),Nat.sub_self,List.set_cons_zero,wH,if_neg (by omega),show L.length+1+M.length-L.length=M.length+1 by omega,List.set_cons_succ,wH,if_neg (Nat.lt_irrefl _),Nat.sub_self,List.set_cons_zero]
variable {R:α→α→Prop}
theorem cross (tr : ∀a b c,R a b→R b c→R a c) {X Y:List α} (hX:X.Pairwise R) (hY:Y.Pairwise R) (h : ∀u v,X[X.length-1]? = some u→Y[0]? = some v→R u v) : ∀a∈X,∀b∈Y,R a b:=by
 intro a ha b hb
 obtain⟨i,hi⟩:=wu.1 ha
 obtain⟨j,hj⟩:=wu.1 hb
 obtain⟨hi',hi⟩:=ww.1 hi
 obtain⟨hj',hj⟩:=ww.1 hj
 rw[List.pairwise_iff_getElem]at hX hY
 have h0:=h _ _ (List.getElem?_eq_getElem (by omega)) (List.getElem?_eq_getElem (by omega))
 have h1:R a Y[0]:=by
  by_cases c:i=X.length-1
  ·subst c;rw[←hi];exact h0
  ·exact tr _ _ _ (by rw[←hi];exact hX i (X.length-1) hi' (by omega) (by omega)) h0
 by_cases c:j=0
 ·subst c;rw[←hj];exact h1
 ·exact tr _ _ _ h1 (by rw[←hj];exact hY 0 j (by omega) hj' (by omega))
theorem qv9 (tr : ∀a b c,R a b→R b c→R a c) {A B:List α} {x:α} (h:(A++B).Pairwise R) (h1 : ∀u,A[A.length-1]? = some u→R u x) (h2 : ∀v,B[0]? = some v→R x v):(A++x::B).Pairwise R:=by
 obtain⟨a1,a2,a3⟩:=List.pairwise_append.1 h
 have c1:=cross tr a1 (wz R x) (fun u v hu hv=>by simp at hv;subst hv;exact h1 u hu)
 have c2:=cross tr (wz R x) a2 (fun u v hu hv=>by simp at hu;subst hu;exact h2 v hv)
 refine List.pairwise_append.2 ⟨a1,List.pairwise_cons.2 ⟨fun b hb=>c2 x (by simp) b hb,a2⟩,fun a ha b hb => ?_⟩
 rcases List.mem_cons.1 hb with rfl|hb
 ·exact c1 a ha _ (by simp)
 ·exact a3 a ha b hb
theorem qcj {f:Env→qh→R3} {s:Env→qh→Option (Env×qh)} {τ:Type} (E:τ→Env) (S:τ→qh) (m:τ→Nat) (Inv:τ→Prop) (Q:CExit×Env×qh→Prop)
  (step : ∀a,Inv a→(∃a',it1 f s (E a) (S a)=some (.inl (E a',S a'))∧Inv a'∧m a'<m a) ∨ ∃y,it1 f s (E a) (S a)=some (.inr y)∧Q y) :
  ∀a,Inv a → ∃y,itB f s (E a) (S a)=some y∧Q y:=by
 have : ∀k a,m a≤k→Inv a → ∃y,itB f s (E a) (S a)=some y∧Q y:=by
  intro k
  induction k with
  |zero=>
   intro a hk ha
   rcases step a ha with ⟨a',h1,h2,h3⟩|⟨y,h1,h2⟩
   ·omega
   ·exact⟨y,qqx h1,h2⟩
  |succ k ih=>
   intro a hk ha
   rcases step a ha with ⟨a',h1,h2,h3⟩|⟨y,h1,h2⟩
   ·obtain⟨y,h4,h5⟩:=ih a' (by omega) h2
    exact⟨y,itB_step h1 h4,h5⟩
   ·exact⟨y,qqx h1,h2⟩
 exact fun a=>this (m a) a (wv _)
end
end Go.Ev
namespace Go.Ev
def LeI (l:List Int):Prop:=l.Pairwise (· ≤ ·)
theorem q04 (a b c:Int) (h:a≤b) (k:b≤c):a≤c:=Int.le_trans h k
theorem qgx {A B:List Int} (hA:LeI A) (hB:LeI B) (h : ∀x∈A,∀y∈B,x≤y):LeI (A++B):=List.pairwise_append.2 ⟨hA,hB,h⟩
theorem q0y {D L M N:List Int} {x y:Int} {i j:Nat} (h:D=L++x::(M++y::N)) (hi:i=L.length) (hj:j=i+1+M.length):(D.set i y).set j x=L++y::(M++x::N)∧(D.set j x).set i y=L++y::(M++x::N):=by
 refine⟨qui h hi hj,?_⟩
 rw[List.set_comm _ _ (by omega)]
 exact qui h hi hj
theorem q0b {D:List Int} {x:Int} {i:Nat} (h:D[i]? = some x):(D.set i x).set i x=D:=by
 obtain⟨hi,rfl⟩:=ww.1 h
 simp
theorem qoe {D:List Int} {x y:Int} {i j:Nat} (hx:D[i]? = some x) (hy:D[j]? = some y):((D.set i y).set j x).Perm D:=by
 obtain⟨hi,hx'⟩:=ww.1 hx
 obtain⟨hj,hy'⟩:=ww.1 hy
 rcases Nat.lt_trichotomy i j with c|c|c
 ·have e:D=D.take i++x::((D.drop (i+1)).take (j-i-1)++y::D.drop (j+1)):=by
   have h1:D.drop i=x::D.drop (i+1):=by rw[←hx'];exact wr hi
   have h2:D.drop j=y::D.drop (j+1):=by rw[←hy'];exact wr hj
   have h3:D.drop (i+1)=(D.drop (i+1)).take (j-i-1)++D.drop j:=by
    have:=(wo (j-i-1) (D.drop (i+1))).symm
    rwa[List.drop_drop,show i+1+(j-i-1)=j by omega]at this
   rw[←h2,←h3,←h1,wo]
  have:=qui e (by simp;omega) (by simp;omega:j=i+1+((D.drop (i+1)).take (j-i-1)).length)
  rw[this]
  conv=>rhs;rw[e]
  refine wq _ ?_
  refine(wB (a:=x) (l₁:=y::(D.drop (i+1)).take (j-i-1))).trans ?_
  exact List.Perm.cons x (wB (a:=y) (l₁:=(D.drop (i+1)).take (j-i-1))).symm
 ·subst c
  rw[hx]at hy;cases hy
  rw[q0b hx]
 ·have e:D=D.take j++y::((D.drop (j+1)).take (i-j-1)++x::D.drop (i+1)):=by
   have h1:D.drop i=x::D.drop (i+1):=by rw[←hx'];exact wr hi
   have h2:D.drop j=y::D.drop (j+1):=by rw[←hy'];exact wr hj
   have h3:D.drop (j+1)=(D.drop (j+1)).take (i-j-1)++D.drop i:=by
    have:=(wo (i-j-1) (D.drop (j+1))).symm
    rwa[List.drop_drop,show j+1+(i-j-1)=i by omega]at this
   rw[←h1,←h3,←h2,wo]
  have:=(q0y e (by simp;omega) (by simp;omega:i=j+1+((D.drop (j+1)).take (i-j-1)).length)).2
  rw[this]
  conv=>rhs;rw[e]
  refine wq _ ?_
  refine(wB (a:=y) (l₁:=x::(D.drop (j+1)).take (i-j-1))).trans ?_
  exact List.Perm.cons y (wB (a:=x) (l₁:=(D.drop (j+1)).take (i-j-1))).symm
theorem qt8 {L S N:List Int} {i:Nat} {x:Int} (h:i<S.length):(L++(S++N)).set (L.length+i) x=L++(S.set i x++N):=by
 rw[wH,if_neg (by omega),Nat.add_sub_cancel_left,wH,if_pos h]
end Go.Ev
namespace Go.Proofs.Ytjliejhcjeodfaa.K
open Go.Ev
set_option maxRecDepth 10000
theorem qke {a b:Nat} (h:a+b<2^62):IntKind.i64.wrap ((a:Int)+(b:Int))=((a+b:Nat):Int):=by rw[qan (by omega) (by omega)];simp
theorem qal {a:Nat} (h:a<2^62):IntKind.i64.wrap ((a:Int)+1)=((a+1:Nat):Int):=by rw[qan (by omega) (by omega)];simp
theorem qg6 {a b c:Nat} (h:a=b+c) (h2:a<2^62):IntKind.i64.wrap ((a:Int)-(b:Int))=(c:Int):=by rw[qan (by omega) (by omega)];omega
theorem qbn {a c:Nat} (h:a=c+1) (h2:a<2^62):IntKind.i64.wrap ((a:Int)-1)=(c:Int):=by rw[qan (by omega) (by omega)];omega
theorem qvq (a:Int):qu (evL T) qdh [(ii a)]=some (bb false):=by
 rw[qu,qj qo8 qoc]
 simp only[qg8,wg,qn,ne_eq,zgy,↓qf,↓wd,wa,wc]
theorem qbd (a b:Int):qu (evL T) qaf [(ii a),(ii b)]=some (bb (decide (a<b))):=by
 have h0:=qvq
 rw[qu,qj qqd qpl]
 by_cases h:a<b
 ·simp only[qgb,h0,h,wg,qn,zgy,↓qf,↓wd,wh,wa,wc]
 ·simp only[qgb,h0,h,wg,qn,zgy,↓qf,↓wd,wh,wa,wc]
theorem qpd {A B:List Int} {x:Int} (h:LeI (A++B)) (h1 : ∀u,A[A.length-1]? = some u→u≤x) (h2 : ∀v,B[0]? = some v→x≤v):LeI (A++x::B):=qv9 q04 h h1 h2
section
variable (g:Nat) (cl:Bool) (n:Nat)
theorem qyo (P S Q:List Int) (x:Int) (hn:n=(P++(S++x::Q)).length) (hb:n<2^60) (hS:LeI S) (a:Nat) (ha:a=P.length) (b i:Int) :
  ∃y,itB (exec (evL T) itL none qay) (qca [0,1,2,6,7] true 4) ⟨[(0,.sl 0 g 0 n cl),(1,(ii a)),(2,(ii b)),(6,(ii i)),(7,(ii ((a+S.length:Nat))))],[]⟩ [.row 1 ((P++(S++x::Q)).map qk) g,.row 1 [[.sl 0 g 0 n false]] 0,.dead,.loop ⟨[(2,.ptr 1 0 0 0)],[]⟩ [7] qb qa .exhausted none]=some y ∧
   (y.1 = .exit 2∧y.2.1.marks=[]∧qbk y.2.1.vars 0=some (.sl 0 g 0 n cl)∧qbk y.2.1.vars 1=some (ii a)∧qbk y.2.1.vars 2=some (ii b)∧qbk y.2.1.vars 6=some (ii i) ∧ ∃S':List Int,S'.Perm (x::S)∧LeI S'∧y.2.2=[.row 1 ((P++(S'++Q)).map qk) g,.row 1 [[.sl 0 g 0 n false]] 0,.dead,.loop ⟨[(2,.ptr 1 0 0 0)],[]⟩ [7] qb qa .exhausted none]):=by
 refine qcj (τ:=List Int×Nat) (fun s=>⟨[(0,.sl 0 g 0 n cl),(1,(ii a)),(2,(ii b)),(6,(ii i)),(7,(ii s.2))],[]⟩) (fun s=>[.row 1 ((s.1).map qk) g,.row 1 [[.sl 0 g 0 n false]] 0,.dead,.loop ⟨[(2,.ptr 1 0 0 0)],[]⟩ [7] qb qa .exhausted none]) (fun s=>s.2)
  (fun s => ∃A B,s.1=P++(A++x::(B++Q))∧s.2=a+A.length∧A++B=S ∧ ∀v,B[0]? = some v→x≤v) _ ?_ (P++(S++x::Q),a+S.length) ⟨S,[],by simp,rfl,by simp,by simp⟩
 rintro⟨D,j⟩ ⟨A,B,hD,hj,hAB,hB⟩
 simp only at hD hj⊢
 have hlen:n=P.length+(S.length+(Q.length+1)):=by rw[hn];simp
 have hSl:S.length=A.length+B.length:=by rw[←hAB];simp
 have fin:(∀u,A[A.length-1]? = some u→u≤x) → ∃S':List Int,S'.Perm (x::S)∧LeI S'∧([.row 1 ((D).map qk) g,.row 1 [[.sl 0 g 0 n false]] 0,.dead,.loop ⟨[(2,.ptr 1 0 0 0)],[]⟩ [7] qb qa .exhausted none]:qh)=[.row 1 ((P++(S'++Q)).map qk) g,.row 1 [[.sl 0 g 0 n false]] 0,.dead,.loop ⟨[(2,.ptr 1 0 0 0)],[]⟩ [7] qb qa .exhausted none]:=fun h=>by
  refine⟨A++x::B,?_,qpd (by rw[hAB];exact hS) h hB,by rw[hD];simp⟩
  rw[←hAB];exact wB
 rcases List.eq_nil_or_concat A with rfl|⟨A0,y,rfl⟩
 ·have h1:¬(j:Int)>(a:Int):=by simp at hj;omega
  refine .inr ?_
  simp only[qay,h1,wg,zgy,↓qf,↓wd,wa,wc]
  exact⟨_,rfl,rfl,rfl,rfl,rfl,rfl,rfl,fin (by simp)⟩
 ·simp only[List.concat_eq_append,zgp,zga,zgb]at hD hj hSl hAB fin
  obtain⟨k,hk1⟩ : ∃k,k=a+A0.length:=⟨_,rfl⟩
  have hjk:j=k+1:=by omega
  have h1:(j:Int)>(a:Int):=by omega
  have e1:D=(P++A0)++y::x::(B++Q):=by rw[hD];simp
  have l1:k=(P++A0).length:=by simp;omega
  have gy:D[k]? = some y:=qvg e1 l1
  have gx:D[j]? = some x:=qvg (L:=P++A0++[y]) (M:=B++Q) (by rw[e1];simp) (by simp;omega)
  have ge:D.length=n:=by rw[e1,hlen];simp;omega
  have ws:IntKind.i64.wrap ((j:Int)-1)=(k:Int):=qbn hjk (by omega)
  have rj:j<n:=by omega
  have rk:k<n:=by omega
  have hc:=qbd x y
  have sw:=qsg e1 l1 hjk
  have hne:¬(j=k):=by omega
  by_cases hlt:x<y
  ·left
   have hlo:=qe 4 ((D.set j y).set k x)
   refine⟨((D.set j y).set k x,k),?_,⟨A0,y::B,by rw[sw];simp,hk1,by rw[←hAB];simp,fun v hv=>by simp at hv;omega⟩,by simp only;omega⟩
   have hs : ∀v,((D.map qk).set j v)[k]? = some (qk y):=fun v=>by rw[wj hne,List.getElem?_map,gy];rfl
   simp only[wi,qk]at hlo hs
   simp only[hlt,zgv]at hc
   simp only[qay,zgs,zgr,zgq,zgt,gx,gy,hs,h1,ws,rj,rk,hc,hlo,wi,qk,wg,wC,qc,wm,wt,wk,wf,zgy,↓qf,↓wd,wa,we,wc]
  ·right
   simp only[hlt,zgw]at hc
   have hf:=fin (fun u hu=>by simp at hu;omega)
   simp only[qay,zgs,zgr,zgq,zgt,gx,gy,h1,ws,rj,rk,hc,qk,wg,qc,zgy,↓qf,↓wd,wa,wc]
   exact⟨_,rfl,rfl,rfl,rfl,rfl,rfl,rfl,hf⟩
theorem insI_ev (P S Q:List Int) (hn:n=(P++(S++Q)).length) (hb:n<2^60) (a b:Nat) (ha:a=P.length) (hbb:b=a+S.length) :
  ∃S':List Int,S'.Perm S∧LeI S'∧(evL T).call qab [.sl 0 g 0 n cl,(ii a),(ii b)] [.row 1 ((P++(S++Q)).map qk) g,.row 1 [[.sl 0 g 0 n false]] 0,.dead,.loop ⟨[(2,.ptr 1 0 0 0)],[]⟩ [7] qb qa .exhausted none]=some (.tup [],[.row 1 ((P++(S'++Q)).map qk) g,.row 1 [[.sl 0 g 0 n false]] 0,.dead,.loop ⟨[(2,.ptr 1 0 0 0)],[]⟩ [7] qb qa .exhausted none]):=by
 have hlen:n=P.length+(S.length+Q.length):=by rw[hn];simp
 have key:=qcj (f:=exec (evL T) itL none qaz) (s:=qca [0,1,2,6] true 4) (τ:=List Int×Nat)
  (fun s=>⟨[(0,.sl 0 g 0 n cl),(1,(ii a)),(2,(ii b)),(6,(ii s.2))],[]⟩) (fun s=>[.row 1 ((s.1).map qk) g,.row 1 [[.sl 0 g 0 n false]] 0,.dead,.loop ⟨[(2,.ptr 1 0 0 0)],[]⟩ [7] qb qa .exhausted none]) (fun s=>b-s.2)
  (fun s=>(∃A B,s.1=P++(A++(B++Q))∧s.2=a+A.length∧(A++B).Perm S∧LeI A)∨S=[]∧s.1=P++Q∧s.2=a+1)
  (fun y=>y.1 = .exit 0∧y.2.1.marks=[] ∧ ∃S':List Int,S'.Perm S∧LeI S'∧y.2.2=[.row 1 ((P++(S'++Q)).map qk) g,.row 1 [[.sl 0 g 0 n false]] 0,.dead,.loop ⟨[(2,.ptr 1 0 0 0)],[]⟩ [7] qb qa .exhausted none]) ?_ (P++(S++Q),a+1) ?_
 ·obtain⟨⟨y,e,σ⟩,k1,k2,k3,S',k4,k5,k6⟩:=key
  simp only at k1 k2 k3 k6
  subst k2;subst k6
  refine⟨S',k4,k5,?_⟩
  have w1:IntKind.i64.wrap ((a:Int)+1)=((a+1:Nat):Int):=qal (by omega)
  rw[qj qgm qgg]
  simp only[qbw,w1,k1,k3,qe,wg,qn,wf,zgy,↓qf,↓qaq,↓wd,wh,wa,we,wc]
 ·rintro⟨D,i⟩ (⟨A,B,hD,hi,hAB,hA⟩|⟨hS,hD,hi⟩)
  ·simp only at hD hi⊢
   have hl:=hAB.length_eq
   rw[List.length_append]at hl
   cases B with
   |nil=>
    have h1:¬(i:Int)<(b:Int):=by simp at hl;omega
    right
    simp only[qaz,h1,wg,zgy,↓qf,↓wd,wa,wc]
    exact⟨_,rfl,rfl,rfl,A,by simpa using hAB,hA,by rw[hD];simp⟩
   |cons x B=>
    rw[List.length_cons]at hl
    have h1:(i:Int)<(b:Int):=by omega
    obtain⟨⟨y,e,σ⟩,k1,k2,k3,k4,k5,k6,k7,S',k9,k10,k11⟩:=qyo g cl n P A (B++Q) x (by rw[hlen];simp;omega) hb hA a ha b i
    simp only at k1 k2 k3 k4 k5 k6 k7 k11
    subst k2;subst k11
    have w1:IntKind.i64.wrap ((i:Int)+1)=((i+1:Nat):Int):=qal (by omega)
    left
    refine⟨(P++(S'++(B++Q)),i+1),?_,.inl ⟨S',B,rfl,?_,?_,k10⟩,?_⟩
    ·rw[←hi]at k1
     rw[hD]
     simp only[zgm]at k1⊢
     simp only[qaz,h1,w1,k1,k3,k4,k5,k6,k7,qe,wg,wf,zgy,↓qf,↓qaq,↓wd,wh,wa,we,wc]
    ·have:=k9.length_eq;rw[List.length_cons]at this;simp only;omega
    ·exact((k9.append_right B).trans List.perm_middle.symm).trans hAB
    ·simp only;omega
  ·simp only at hD hi⊢
   subst hS
   have h1:¬(i:Int)<(b:Int):=by simp at hbb;omega
   right
   simp only[qaz,h1,wg,zgy,↓qf,↓wd,wa,wc]
   exact⟨_,rfl,rfl,rfl,[],List.Perm.nil,List.Pairwise.nil,by rw[hD];simp⟩
 ·cases S with
  |nil=>exact .inr ⟨rfl,by simp,rfl⟩
  |cons x S=>exact .inl ⟨[x],S,by simp,by simp,by simp,wz _ _⟩
end
open Go.Ev
set_option maxRecDepth 10000
theorem qfl {D:List Int} {i j:Nat} {x y:Int} (hx:D[i]? = some x) (hy:D[j]? = some y) : ∃z,((D.map qk).set i [(ii y)])[j]? = some [(ii z)]:=by
 by_cases h:i=j
 ·subst h
  have:=(zei.1 hx).1
  exact⟨y,by rw[wn (by simpa using this)]⟩
 ·exact⟨y,by rw[wj h,List.getElem?_map,hy];rfl⟩
theorem qm1 {P S Q D:List Int} {a i j:Nat} {x y:Int} (hD:D=P++(S++Q)) (ha:a=P.length) (hi:a≤i) (hi2:i<a+S.length) (hj:a≤j) (hj2:j<a+S.length) (hx:D[i]? = some x) (hy:D[j]? = some y) :
  ∃S',(D.set i y).set j x=P++(S'++Q)∧S'.Perm S:=by
 obtain⟨i',rfl⟩ : ∃k,i=P.length+k:=⟨i-P.length,by omega⟩
 obtain⟨j',rfl⟩ : ∃k,j=P.length+k:=⟨j-P.length,by omega⟩
 have gx:S[i']? = some x:=by rw[←hx];exact(qks hD (by omega) rfl).symm
 have gy:S[j']? = some y:=by rw[←hy];exact(qks hD (by omega) rfl).symm
 refine⟨(S.set i' y).set j' x,?_,qoe gx gy⟩
 rw[hD,qt8 (by omega),qt8 (by simp;omega)]
section
variable (g:Nat) (cl:Bool) (n:Nat)
theorem part_up1 (D:List Int) (hn:n=D.length) (hb:n<2^60) (a i0 j:Nat) (v:Int) (hv:D[a]? = some v) (hj:j<n) (hij:i0≤j+1) :
  ∃y,itB (exec (evL T) itL none qba) (qca [0,1,10,11] true 4) ⟨[(0,.sl 0 g 0 n cl),(1,(ii a)),(10,(ii i0)),(11,(ii j))],[]⟩ [.row 1 ((D).map qk) g,.row 1 [[.sl 0 g 0 n false]] 0,.dead,.loop ⟨[(2,.ptr 1 0 0 0)],[]⟩ [7] qb qa .exhausted none]=some y ∧
   ∃i:Nat,y.1 = .exit 0∧y.2.1.marks=[]∧y.2.2=[.row 1 ((D).map qk) g,.row 1 [[.sl 0 g 0 n false]] 0,.dead,.loop ⟨[(2,.ptr 1 0 0 0)],[]⟩ [7] qb qa .exhausted none]∧qbk y.2.1.vars 0=some (.sl 0 g 0 n cl)∧qbk y.2.1.vars 1=some (ii a)∧qbk y.2.1.vars 10=some (ii i)∧qbk y.2.1.vars 11=some (ii j) ∧
    i0≤i∧i≤j+1∧(∀k x,i0≤k→k<i→D[k]? = some x→x<v)∧(i≤j → ∀x,D[i]? = some x→¬(x<v)):=by
 have rv:a<n:=by rw[hn];exact(zei.1 hv).1
 refine qcj (τ:=Nat) (fun i=>⟨[(0,.sl 0 g 0 n cl),(1,(ii a)),(10,(ii i)),(11,(ii j))],[]⟩) (fun _=>[.row 1 ((D).map qk) g,.row 1 [[.sl 0 g 0 n false]] 0,.dead,.loop ⟨[(2,.ptr 1 0 0 0)],[]⟩ [7] qb qa .exhausted none]) (fun i=>j+1-i)
  (fun i=>i0≤i∧i≤j+1 ∧ ∀k x,i0≤k→k<i→D[k]? = some x→x<v) _ ?_ i0 ⟨wv _,hij,fun k x h1 h2=>by omega⟩
 rintro i ⟨h1,h2,h3⟩
 by_cases hle:i≤j
 case neg=>
  have c1:¬(i:Int)≤(j:Int):=by omega
  right
  simp only[qba,c1,wg,zgy,↓qf,↓wd,wa,wc]
  exact⟨_,rfl,i,rfl,rfl,rfl,rfl,rfl,rfl,rfl,h1,h2,h3,fun h=>absurd h hle⟩
 have c1:(i:Int)≤(j:Int):=by omega
 obtain⟨x,hx⟩ : ∃x,D[i]? = some x:=⟨_,zgE (by omega)⟩
 have ri:i<n:=by omega
 have w1:IntKind.i64.wrap ((i:Int)+1)=((i+1:Nat):Int):=qal (by omega)
 have hc:=qbd x v
 by_cases hlt:x<v<;>simp only[hlt,zgv,zgw]at hc
 ·left
  refine⟨i+1,?_,⟨by omega,by omega,fun k z k1 k2 hk => ?_⟩,by omega⟩
  ·simp only[qba,zgs,zgr,zgq,zgt,c1,hx,hv,ri,rv,w1,hc,qk,qe,wg,qc,wf,zgy,↓qf,↓wd,wa,we,wc]
  ·by_cases hki:k<i
   ·exact h3 k z k1 hki hk
   ·obtain rfl:k=i:=by omega
    rw[hx]at hk;cases hk;exact hlt
 ·right
  simp only[qba,zgs,zgr,zgq,zgt,c1,hx,hv,ri,rv,hc,qk,wg,qc,zgy,↓qf,↓wd,wa,wc]
  exact⟨_,rfl,i,rfl,rfl,rfl,rfl,rfl,rfl,rfl,h1,h2,h3,fun _ z hz=>by rw[hx]at hz;cases hz;exact hlt⟩
theorem qy2 (D:List Int) (hn:n=D.length) (hb:n<2^60) (a i j0:Nat) (v:Int) (hv:D[a]? = some v) (hj:j0<n) (hij:i≤j0+1) (hi:1≤i) :
  ∃y,itB (exec (evL T) itL none qa9) (qca [0,1,10,11] true 4) ⟨[(0,.sl 0 g 0 n cl),(1,(ii a)),(10,(ii i)),(11,(ii j0))],[]⟩ [.row 1 ((D).map qk) g,.row 1 [[.sl 0 g 0 n false]] 0,.dead,.loop ⟨[(2,.ptr 1 0 0 0)],[]⟩ [7] qb qa .exhausted none]=some y ∧
   ∃j:Nat,y.1 = .exit 2∧y.2.1.marks=[]∧y.2.2=[.row 1 ((D).map qk) g,.row 1 [[.sl 0 g 0 n false]] 0,.dead,.loop ⟨[(2,.ptr 1 0 0 0)],[]⟩ [7] qb qa .exhausted none]∧qbk y.2.1.vars 0=some (.sl 0 g 0 n cl)∧qbk y.2.1.vars 1=some (ii a)∧qbk y.2.1.vars 10=some (ii i)∧qbk y.2.1.vars 11=some (ii j) ∧
    j≤j0∧i≤j+1∧(∀k x,j<k→k≤j0→D[k]? = some x→¬x<v)∧(i≤j → ∀x,D[j]? = some x→¬(¬x<v)):=by
 have rv:a<n:=by rw[hn];exact(zei.1 hv).1
 refine qcj (τ:=Nat) (fun j=>⟨[(0,.sl 0 g 0 n cl),(1,(ii a)),(10,(ii i)),(11,(ii j))],[]⟩) (fun _=>[.row 1 ((D).map qk) g,.row 1 [[.sl 0 g 0 n false]] 0,.dead,.loop ⟨[(2,.ptr 1 0 0 0)],[]⟩ [7] qb qa .exhausted none]) (fun j=>j)
  (fun j=>j≤j0∧i≤j+1 ∧ ∀k x,j<k→k≤j0→D[k]? = some x→¬x<v) _ ?_ j0 ⟨wv _,hij,fun k x h1 h2=>by omega⟩
 rintro j ⟨h1,h2,h3⟩
 by_cases hle:i≤j
 case neg=>
  have c1:¬(i:Int)≤(j:Int):=by omega
  right
  simp only[qa9,c1,wg,zgy,↓qf,↓wd,wa,wc]
  exact⟨_,rfl,j,rfl,rfl,rfl,rfl,rfl,rfl,rfl,h1,h2,h3,fun h=>absurd h hle⟩
 have c1:(i:Int)≤(j:Int):=by omega
 obtain⟨x,hx⟩ : ∃x,D[j]? = some x:=⟨_,zgE (by omega)⟩
 have rj:j<n:=by omega
 obtain⟨m,hm⟩ : ∃m,j=m+1:=⟨j-1,by omega⟩
 have w1:IntKind.i64.wrap ((j:Int)-1)=(m:Int):=qbn hm (by omega)
 have hc:=qbd x v
 by_cases hlt:x<v<;>simp only[hlt,zgv,zgw]at hc
 ·right
  simp only[qa9,zgs,zgr,zgq,zgt,c1,hx,hv,rj,rv,hc,qk,wg,qc,zgy,↓qf,↓wd,wa,wc]
  exact⟨_,rfl,j,rfl,rfl,rfl,rfl,rfl,rfl,rfl,h1,h2,h3,fun _ z hz=>by rw[hx]at hz;cases hz;exact fun h=>h hlt⟩
 ·left
  refine⟨m,?_,⟨by omega,by omega,fun k z k1 k2 hk => ?_⟩,by omega⟩
  ·simp only[qa9,zgs,zgr,zgq,zgt,c1,hx,hv,rj,rv,w1,hc,qk,qe,wg,qc,wf,zgy,↓qf,↓wd,wa,we,wc]
  ·by_cases hki:j<k
   ·exact h3 k z hki k2 hk
   ·obtain rfl:k=j:=by omega
    rw[hx]at hk;cases hk;exact hlt
theorem part_up2 (D:List Int) (hn:n=D.length) (hb:n<2^60) (a i0 j:Nat) (v:Int) (hv:D[a]? = some v) (hj:j<n) (hij:i0≤j+1) :
  ∃y,itB (exec (evL T) itL none qa7) (qca [0,1,10,11] true 4) ⟨[(0,.sl 0 g 0 n cl),(1,(ii a)),(10,(ii i0)),(11,(ii j))],[]⟩ [.row 1 ((D).map qk) g,.row 1 [[.sl 0 g 0 n false]] 0,.dead,.loop ⟨[(2,.ptr 1 0 0 0)],[]⟩ [7] qb qa .exhausted none]=some y ∧
   ∃i:Nat,y.1 = .exit 6∧y.2.1.marks=[]∧y.2.2=[.row 1 ((D).map qk) g,.row 1 [[.sl 0 g 0 n false]] 0,.dead,.loop ⟨[(2,.ptr 1 0 0 0)],[]⟩ [7] qb qa .exhausted none]∧qbk y.2.1.vars 0=some (.sl 0 g 0 n cl)∧qbk y.2.1.vars 1=some (ii a)∧qbk y.2.1.vars 10=some (ii i)∧qbk y.2.1.vars 11=some (ii j) ∧
    i0≤i∧i≤j+1∧(∀k x,i0≤k→k<i→D[k]? = some x→x<v)∧(i≤j → ∀x,D[i]? = some x→¬(x<v)):=by
 have rv:a<n:=by rw[hn];exact(zei.1 hv).1
 refine qcj (τ:=Nat) (fun i=>⟨[(0,.sl 0 g 0 n cl),(1,(ii a)),(10,(ii i)),(11,(ii j))],[]⟩) (fun _=>[.row 1 ((D).map qk) g,.row 1 [[.sl 0 g 0 n false]] 0,.dead,.loop ⟨[(2,.ptr 1 0 0 0)],[]⟩ [7] qb qa .exhausted none]) (fun i=>j+1-i)
  (fun i=>i0≤i∧i≤j+1 ∧ ∀k x,i0≤k→k<i→D[k]? = some x→x<v) _ ?_ i0 ⟨wv _,hij,fun k x h1 h2=>by omega⟩
 rintro i ⟨h1,h2,h3⟩
 by_cases hle:i≤j
 case neg=>
  have c1:¬(i:Int)≤(j:Int):=by omega
  right
  simp only[qa7,c1,wg,zgy,↓qf,↓wd,wa,wc]
  exact⟨_,rfl,i,rfl,rfl,rfl,rfl,rfl,rfl,rfl,h1,h2,h3,fun h=>absurd h hle⟩
 have c1:(i:Int)≤(j:Int):=by omega
 obtain⟨x,hx⟩ : ∃x,D[i]? = some x:=⟨_,zgE (by omega)⟩
 have ri:i<n:=by omega
 have w1:IntKind.i64.wrap ((i:Int)+1)=((i+1:Nat):Int):=qal (by omega)
 have hc:=qbd x v
 by_cases hlt:x<v<;>simp only[hlt,zgv,zgw]at hc
 ·left
  refine⟨i+1,?_,⟨by omega,by omega,fun k z k1 k2 hk => ?_⟩,by omega⟩
  ·simp only[qa7,zgs,zgr,zgq,zgt,c1,hx,hv,ri,rv,w1,hc,qk,qe,wg,qc,wf,zgy,↓qf,↓wd,wa,we,wc]
  ·by_cases hki:k<i
   ·exact h3 k z k1 hki hk
   ·obtain rfl:k=i:=by omega
    rw[hx]at hk;cases hk;exact hlt
 ·right
  simp only[qa7,zgs,zgr,zgq,zgt,c1,hx,hv,ri,rv,hc,qk,wg,qc,zgy,↓qf,↓wd,wa,wc]
  exact⟨_,rfl,i,rfl,rfl,rfl,rfl,rfl,rfl,rfl,h1,h2,h3,fun _ z hz=>by rw[hx]at hz;cases hz;exact hlt⟩
theorem qyc (D:List Int) (hn:n=D.length) (hb:n<2^60) (a i j0:Nat) (v:Int) (hv:D[a]? = some v) (hj:j0<n) (hij:i≤j0+1) (hi:1≤i) :
  ∃y,itB (exec (evL T) itL none qa8) (qca [0,1,10,11] true 4) ⟨[(0,.sl 0 g 0 n cl),(1,(ii a)),(10,(ii i)),(11,(ii j0))],[]⟩ [.row 1 ((D).map qk) g,.row 1 [[.sl 0 g 0 n false]] 0,.dead,.loop ⟨[(2,.ptr 1 0 0 0)],[]⟩ [7] qb qa .exhausted none]=some y ∧
   ∃j:Nat,y.1 = .exit 8∧y.2.1.marks=[]∧y.2.2=[.row 1 ((D).map qk) g,.row 1 [[.sl 0 g 0 n false]] 0,.dead,.loop ⟨[(2,.ptr 1 0 0 0)],[]⟩ [7] qb qa .exhausted none]∧qbk y.2.1.vars 0=some (.sl 0 g 0 n cl)∧qbk y.2.1.vars 1=some (ii a)∧qbk y.2.1.vars 10=some (ii i)∧qbk y.2.1.vars 11=some (ii j) ∧
    j≤j0∧i≤j+1∧(∀k x,j<k→k≤j0→D[k]? = some x→¬x<v)∧(i≤j → ∀x,D[j]? = some x→¬(¬x<v)):=by
 have rv:a<n:=by rw[hn];exact(zei.1 hv).1
 refine qcj (τ:=Nat) (fun j=>⟨[(0,.sl 0 g 0 n cl),(1,(ii a)),(10,(ii i)),(11,(ii j))],[]⟩) (fun _=>[.row 1 ((D).map qk) g,.row 1 [[.sl 0 g 0 n false]] 0,.dead,.loop ⟨[(2,.ptr 1 0 0 0)],[]⟩ [7] qb qa .exhausted none]) (fun j=>j)
  (fun j=>j≤j0∧i≤j+1 ∧ ∀k x,j<k→k≤j0→D[k]? = some x→¬x<v) _ ?_ j0 ⟨wv _,hij,fun k x h1 h2=>by omega⟩
 rintro j ⟨h1,h2,h3⟩
 by_cases hle:i≤j
 case neg=>
  have c1:¬(i:Int)≤(j:Int):=by omega
  right
  simp only[qa8,c1,wg,zgy,↓qf,↓wd,wa,wc]
  exact⟨_,rfl,j,rfl,rfl,rfl,rfl,rfl,rfl,rfl,h1,h2,h3,fun h=>absurd h hle⟩
 have c1:(i:Int)≤(j:Int):=by omega
 obtain⟨x,hx⟩ : ∃x,D[j]? = some x:=⟨_,zgE (by omega)⟩
 have rj:j<n:=by omega
 obtain⟨m,hm⟩ : ∃m,j=m+1:=⟨j-1,by omega⟩
 have w1:IntKind.i64.wrap ((j:Int)-1)=(m:Int):=qbn hm (by omega)
 have hc:=qbd x v
 by_cases hlt:x<v<;>simp only[hlt,zgv,zgw]at hc
 ·right
  simp only[qa8,zgs,zgr,zgq,zgt,c1,hx,hv,rj,rv,hc,qk,wg,qc,zgy,↓qf,↓wd,wa,wc]
  exact⟨_,rfl,j,rfl,rfl,rfl,rfl,rfl,rfl,rfl,h1,h2,h3,fun _ z hz=>by rw[hx]at hz;cases hz;exact fun h=>h hlt⟩
 ·left
  refine⟨m,?_,⟨by omega,by omega,fun k z k1 k2 hk => ?_⟩,by omega⟩
  ·simp only[qa8,zgs,zgr,zgq,zgt,c1,hx,hv,rj,rv,w1,hc,qk,qe,wg,qc,wf,zgy,↓qf,↓wd,wa,we,wc]
  ·by_cases hki:j<k
   ·exact h3 k z hki k2 hk
   ·obtain rfl:k=j:=by omega
    rw[hx]at hk;cases hk;exact hlt
theorem peq_up (D:List Int) (hn:n=D.length) (hb:n<2^60) (a i0 j:Nat) (v:Int) (hv:D[a]? = some v) (hj:j<n) (hij:i0≤j+1) :
  ∃y,itB (exec (evL T) itL none qat) (qca [0,1,9,10] true 4) ⟨[(0,.sl 0 g 0 n cl),(1,(ii a)),(9,(ii i0)),(10,(ii j))],[]⟩ [.row 1 ((D).map qk) g,.row 1 [[.sl 0 g 0 n false]] 0,.dead,.loop ⟨[(2,.ptr 1 0 0 0)],[]⟩ [7] qb qa .exhausted none]=some y ∧
   ∃i:Nat,y.1 = .exit 2∧y.2.1.marks=[]∧y.2.2=[.row 1 ((D).map qk) g,.row 1 [[.sl 0 g 0 n false]] 0,.dead,.loop ⟨[(2,.ptr 1 0 0 0)],[]⟩ [7] qb qa .exhausted none]∧qbk y.2.1.vars 0=some (.sl 0 g 0 n cl)∧qbk y.2.1.vars 1=some (ii a)∧qbk y.2.1.vars 9=some (ii i)∧qbk y.2.1.vars 10=some (ii j) ∧
    i0≤i∧i≤j+1∧(∀k x,i0≤k→k<i→D[k]? = some x→¬v<x)∧(i≤j → ∀x,D[i]? = some x→¬(¬v<x)):=by
 have rv:a<n:=by rw[hn];exact(zei.1 hv).1
 refine qcj (τ:=Nat) (fun i=>⟨[(0,.sl 0 g 0 n cl),(1,(ii a)),(9,(ii i)),(10,(ii j))],[]⟩) (fun _=>[.row 1 ((D).map qk) g,.row 1 [[.sl 0 g 0 n false]] 0,.dead,.loop ⟨[(2,.ptr 1 0 0 0)],[]⟩ [7] qb qa .exhausted none]) (fun i=>j+1-i)
  (fun i=>i0≤i∧i≤j+1 ∧ ∀k x,i0≤k→k<i→D[k]? = some x→¬v<x) _ ?_ i0 ⟨wv _,hij,fun k x h1 h2=>by omega⟩
 rintro i ⟨h1,h2,h3⟩
 by_cases hle:i≤j
 case neg=>
  have c1:¬(i:Int)≤(j:Int):=by omega
  right
  simp only[qat,c1,wg,zgy,↓qf,↓wd,wa,wc]
  exact⟨_,rfl,i,rfl,rfl,rfl,rfl,rfl,rfl,rfl,h1,h2,h3,fun h=>absurd h hle⟩
 have c1:(i:Int)≤(j:Int):=by omega
 obtain⟨x,hx⟩ : ∃x,D[i]? = some x:=⟨_,zgE (by omega)⟩
 have ri:i<n:=by omega
 have w1:IntKind.i64.wrap ((i:Int)+1)=((i+1:Nat):Int):=qal (by omega)
 have hc:=qbd v x
 by_cases hlt:v<x<;>simp only[hlt,zgv,zgw]at hc
 ·right
  simp only[qat,zgs,zgr,zgq,zgt,c1,hx,hv,ri,rv,hc,qk,wg,qc,zgy,↓qf,↓wd,wa,wc]
  exact⟨_,rfl,i,rfl,rfl,rfl,rfl,rfl,rfl,rfl,h1,h2,h3,fun _ z hz=>by rw[hx]at hz;cases hz;exact fun h=>h hlt⟩
 ·left
  refine⟨i+1,?_,⟨by omega,by omega,fun k z k1 k2 hk => ?_⟩,by omega⟩
  ·simp only[qat,zgs,zgr,zgq,zgt,c1,hx,hv,ri,rv,w1,hc,qk,qe,wg,qc,wf,zgy,↓qf,↓wd,wa,we,wc]
  ·by_cases hki:k<i
   ·exact h3 k z k1 hki hk
   ·obtain rfl:k=i:=by omega
    rw[hx]at hk;cases hk;exact hlt
theorem peq_down (D:List Int) (hn:n=D.length) (hb:n<2^60) (a i j0:Nat) (v:Int) (hv:D[a]? = some v) (hj:j0<n) (hij:i≤j0+1) (hi:1≤i) :
  ∃y,itB (exec (evL T) itL none qau) (qca [0,1,9,10] true 4) ⟨[(0,.sl 0 g 0 n cl),(1,(ii a)),(9,(ii i)),(10,(ii j0))],[]⟩ [.row 1 ((D).map qk) g,.row 1 [[.sl 0 g 0 n false]] 0,.dead,.loop ⟨[(2,.ptr 1 0 0 0)],[]⟩ [7] qb qa .exhausted none]=some y ∧
   ∃j:Nat,y.1 = .exit 4∧y.2.1.marks=[]∧y.2.2=[.row 1 ((D).map qk) g,.row 1 [[.sl 0 g 0 n false]] 0,.dead,.loop ⟨[(2,.ptr 1 0 0 0)],[]⟩ [7] qb qa .exhausted none]∧qbk y.2.1.vars 0=some (.sl 0 g 0 n cl)∧qbk y.2.1.vars 1=some (ii a)∧qbk y.2.1.vars 9=some (ii i)∧qbk y.2.1.vars 10=some (ii j) ∧
    j≤j0∧i≤j+1∧(∀k x,j<k→k≤j0→D[k]? = some x→v<x)∧(i≤j → ∀x,D[j]? = some x→¬(v<x)):=by
 have rv:a<n:=by rw[hn];exact(zei.1 hv).1
 refine qcj (τ:=Nat) (fun j=>⟨[(0,.sl 0 g 0 n cl),(1,(ii a)),(9,(ii i)),(10,(ii j))],[]⟩) (fun _=>[.row 1 ((D).map qk) g,.row 1 [[.sl 0 g 0 n false]] 0,.dead,.loop ⟨[(2,.ptr 1 0 0 0)],[]⟩ [7] qb qa .exhausted none]) (fun j=>j)
  (fun j=>j≤j0∧i≤j+1 ∧ ∀k x,j<k→k≤j0→D[k]? = some x→v<x) _ ?_ j0 ⟨wv _,hij,fun k x h1 h2=>by omega⟩
 rintro j ⟨h1,h2,h3⟩
 by_cases hle:i≤j
 case neg=>
  have c1:¬(i:Int)≤(j:Int):=by omega
  right
  simp only[qau,c1,wg,zgy,↓qf,↓wd,wa,wc]
  exact⟨_,rfl,j,rfl,rfl,rfl,rfl,rfl,rfl,rfl,h1,h2,h3,fun h=>absurd h hle⟩
 have c1:(i:Int)≤(j:Int):=by omega
 obtain⟨x,hx⟩ : ∃x,D[j]? = some x:=⟨_,zgE (by omega)⟩
 have rj:j<n:=by omega
 obtain⟨m,hm⟩ : ∃m,j=m+1:=⟨j-1,by omega⟩
 have w1:IntKind.i64.wrap ((j:Int)-1)=(m:Int):=qbn hm (by omega)
 have hc:=qbd v x
 by_cases hlt:v<x<;>simp only[hlt,zgv,zgw]at hc
 ·left
  refine⟨m,?_,⟨by omega,by omega,fun k z k1 k2 hk => ?_⟩,by omega⟩
  ·simp only[qau,zgs,zgr,zgq,zgt,c1,hx,hv,rj,rv,w1,hc,qk,qe,wg,qc,wf,zgy,↓qf,↓wd,wa,we,wc]
  ·by_cases hki:j<k
   ·exact h3 k z hki k2 hk
   ·obtain rfl:k=j:=by omega
    rw[hx]at hk;cases hk;exact hlt
 ·right
  simp only[qau,zgs,zgr,zgq,zgt,c1,hx,hv,rj,rv,hc,qk,wg,qc,zgy,↓qf,↓wd,wa,wc]
  exact⟨_,rfl,j,rfl,rfl,rfl,rfl,rfl,rfl,rfl,h1,h2,h3,fun _ z hz=>by rw[hx]at hz;cases hz;exact hlt⟩
end
open Go.Ev
set_option maxRecDepth 10000
structure PInv (Lo Hi:Int→Prop) (P S Q:List Int) (a b:Nat) (v:Int) (D:List Int) (i j:Nat):Prop where
 seg : ∃S',D=P++(S'++Q)∧S'.Perm S
 piv:D[a]? = some v
 i1:a+1≤i
 j1:j+1≤b
 ij:i≤j+1
 lo : ∀k x,a<k→k<i→D[k]? = some x→Lo x
 hi : ∀k x,j<k→k<b→D[k]? = some x→Hi x
theorem qq0 {D:List Int} {i j k:Nat} {x y z:Int} (hx:D[i]? = some x) (hy:D[j]? = some y) (h:((D.set i y).set j x)[k]? = some z):k=j∧z=x∨k≠j∧k=i∧z=y∨k≠j∧k≠i∧D[k]? = some z:=by
 have hi:=(zei.1 hx).1
 have hj:=(zei.1 hy).1
 by_cases e1:k=j
 ·subst e1
  rw[wn (by simpa using hj)]at h
  exact .inl ⟨rfl,(Option.some.inj h).symm⟩
 ·rw[wj (Ne.symm e1)]at h
  by_cases e2:k=i
  ·subst e2
   rw[wn hi]at h
   exact .inr (.inl ⟨e1,rfl,(Option.some.inj h).symm⟩)
  ·rw[wj (Ne.symm e2)]at h
   exact .inr (.inr ⟨e1,e2,h⟩)
section
variable {Lo Hi:Int→Prop} {P S Q:List Int} {a b:Nat} {v:Int} {D:List Int} {i j:Nat}
theorem PInv.swap (h:PInv Lo Hi P S Q a b v D i j) (ha:a=P.length) (hb:b=a+S.length) {x y:Int} {m:Nat} (hm:j=m+1) (hij:i<j) (hx:D[i]? = some x) (hy:D[j]? = some y) (hLo:Lo y) (hHi:Hi x):PInv Lo Hi P S Q a b v ((D.set i y).set j x) (i+1) m:=by
 obtain⟨S',hD,hp⟩:=h.seg
 have hl:=hp.length_eq
 have h1:=h.i1;have h2:=h.j1
 obtain⟨S'',e1,e2⟩:=qm1 hD ha (by omega) (by omega) (by omega) (by omega) hx hy
 refine⟨⟨S'',e1,e2.trans hp⟩,?_,by omega,by omega,by omega,fun k z k1 k2 hk => ?_,fun k z k1 k2 hk => ?_⟩
 ·rw[wj (by omega),wj (by omega)];exact h.piv
 ·rcases qq0 hx hy hk with ⟨e,_⟩|⟨_,_,rfl⟩|⟨_,e,g⟩
  ·omega
  ·exact hLo
  ·exact h.lo k z k1 (by omega) g
 ·rcases qq0 hx hy hk with ⟨_,rfl⟩|⟨e,e',_⟩|⟨e,_,g⟩
  ·exact hHi
  ·omega
  ·exact h.hi k z (by omega) k2 g
theorem PInv.init (ha:a=P.length) (hb:b=a+S.length) (hS:0<S.length) {p:Nat} (hp:a≤p∧p<b) {u:Int} (hD:D=P++(S++Q)) (hu:D[a]? = some u) (hv:D[p]? = some v):PInv Lo Hi P S Q a b v ((D.set a v).set p u) (a+1) (b-1):=by
 obtain⟨S'',e1,e2⟩:=qm1 hD ha (wv _) (by omega) hp.1 (by omega) hu hv
 refine⟨⟨S'',e1,e2⟩,?_,by omega,by omega,by omega,fun k z k1 k2 hk=>by omega,fun k z k1 k2 hk=>by omega⟩
 have hal:=(zei.1 hu).1
 by_cases e:p=a
 ·subst e
  rw[hu]at hv;cases hv
  rw[wn (by simpa using hal)]
 ·rw[wj e,wn hal]
theorem PInv.final (h:PInv Lo Hi P S Q a b v D (j+1) j) (ha:a=P.length) (hb:b=a+S.length) {y:Int} (hy:D[j]? = some y) :
  ∃L R,(D.set j v).set a y=P++((L++v::R)++Q)∧(L++v::R).Perm S∧(∀x∈L,Lo x)∧(∀x∈R,Hi x)∧j=a+L.length:=by
 obtain⟨S',hD,hp⟩:=h.seg
 have hl:=hp.length_eq
 have h1:=h.i1;have h2:=h.j1
 obtain⟨S2,e1,e2⟩:=qm1 hD ha (by omega:a≤j) (by omega) (wv a) (by omega) hy h.piv
 have hl2:=e2.length_eq
 have hat:S2[j-a]? = some v:=by
  have:((D.set j v).set a y)[j]? = some v:=by
   have hjl:=(zei.1 hy).1
   by_cases e:j=a
   ·have:=h.piv
    rw[←e,hy]at this;cases this
    rw[←e,wn (by simpa using hjl)]
   ·rw[wj (Ne.symm e),wn hjl]
  rw[←this];exact(qks e1 (by omega) (by omega)).symm
 obtain⟨hlt,hval⟩:=zei.1 hat
 have hsplit:S2=S2.take (j-a)++v::S2.drop (j-a+1):=by
  rw[←hval,List.getElem_cons_drop,wo]
 have at' : ∀k z,S2[k]? = some z→((D.set j v).set a y)[a+k]? = some z:=fun k z hk=>by
  rw[←hk];exact qks e1 (zei.1 hk).1 (by omega)
 refine⟨S2.take (j-a),S2.drop (j-a+1),by rw[←hsplit];exact e1,by rw[←hsplit];exact e2.trans hp,fun x hx => ?_,fun x hx => ?_,by simp;omega⟩
 ·obtain⟨k,hk⟩:=wu.1 hx
  have hkl:=(zei.1 hk).1
  simp only[List.length_take]at hkl
  rw[wx (by omega)]at hk
  rcases qq0 hy h.piv (at' k x hk)with ⟨_,rfl⟩|⟨_,e,_⟩|⟨e,_,g⟩
  ·exact h.lo j x (by omega) (by omega) hy
  ·omega
  ·exact h.lo (a+k) x (by omega) (by omega) g
 ·obtain⟨k,hk⟩:=wu.1 hx
  rw[wI]at hk
  have hkl:=(zei.1 hk).1
  rcases qq0 hy h.piv (at' _ x hk)with ⟨e,_⟩|⟨_,e,_⟩|⟨_,_,g⟩
  ·omega
  ·omega
  ·exact h.hi (a+(j-a+1+k)) x (by omega) (by omega) g
theorem PInv.equal (h:PInv Lo Hi P S Q a b v D (j+1) j) (ha:a=P.length) (hb:b=a+S.length) :
  ∃L R,D=P++((L++R)++Q)∧(L++R).Perm S∧(∀x∈L,x=v∨Lo x)∧(∀x∈R,Hi x)∧j+1=a+L.length:=by
 obtain⟨S',hD,hp⟩:=h.seg
 have hl:=hp.length_eq
 have h1:=h.i1;have h2:=h.j1
 have at' : ∀k z,S'[k]? = some z→D[a+k]? = some z:=fun k z hk=>by
  rw[←hk];exact qks hD (zei.1 hk).1 (by omega)
 refine⟨S'.take (j+1-a),S'.drop (j+1-a),by rw[wo];exact hD,by rw[wo];exact hp,fun x hx => ?_,fun x hx => ?_,by simp;omega⟩
 ·obtain⟨k,hk⟩:=wu.1 hx
  have hkl:=(zei.1 hk).1
  simp only[List.length_take]at hkl
  rw[wx (by omega)]at hk
  have:=at' k x hk
  by_cases e:k=0
  ·subst e;rw[Nat.add_zero,h.piv]at this;cases this;exact .inl rfl
  ·exact .inr (h.lo (a+k) x (by omega) (by omega) this)
 ·obtain⟨k,hk⟩:=wu.1 hx
  rw[wI]at hk
  have hkl:=(zei.1 hk).1
  exact h.hi (a+(j+1-a+k)) x (by omega) (by omega) (at' _ x hk)
theorem PInv.up (h:PInv Lo Hi P S Q a b v D i j) {i':Nat} (h1:i≤i') (h2:i'≤j+1) (h3 : ∀k x,i≤k→k<i'→D[k]? = some x→Lo x):PInv Lo Hi P S Q a b v D i' j:=
 ⟨h.seg,h.piv,by have:=h.i1;omega,h.j1,h2,fun k x k1 k2 hk=>by
  by_cases c:k<i
  ·exact h.lo k x k1 c hk
  ·exact h3 k x (by omega) k2 hk,h.hi⟩
theorem PInv.down (h:PInv Lo Hi P S Q a b v D i j) {j':Nat} (h1:j'≤j) (h2:i≤j'+1) (h3 : ∀k x,j'<k→k≤j→D[k]? = some x→Hi x):PInv Lo Hi P S Q a b v D i j':=
 ⟨h.seg,h.piv,h.i1,by have:=h.j1;omega,h2,h.lo,fun k x k1 k2 hk=>by
  by_cases c:j<k
  ·exact h.hi k x c k2 hk
  ·exact h3 k x k1 (by omega) hk⟩
theorem PInv.len (h:PInv Lo Hi P S Q a b v D i j):D.length=P.length+(S.length+Q.length):=by
 obtain⟨S',hD,hp⟩:=h.seg
 rw[hD];simp[hp.length_eq]
end
section
variable (g:Nat) (cl:Bool) (n:Nat)
theorem qyk (P S Q:List Int) (a b:Nat) (v:Int) (ha:a=P.length) (hbb:b=a+S.length) (hn:n=P.length+(S.length+Q.length)) (hb:n<2^60) (D0:List Int) (i0 j0:Nat) (h0:PInv (fun x=>x<v) (fun x=>¬x<v) P S Q a b v D0 i0 j0) :
  ∃y,itB (exec (evL T) itL none qbz) (qca [0,1,10,11] true 4) ⟨[(0,.sl 0 g 0 n cl),(1,(ii a)),(10,(ii i0)),(11,(ii j0))],[]⟩ [.row 1 ((D0).map qk) g,.row 1 [[.sl 0 g 0 n false]] 0,.dead,.loop ⟨[(2,.ptr 1 0 0 0)],[]⟩ [7] qb qa .exhausted none]=some y ∧
   ∃(D:List Int) (j:Nat),y.1 = .exit 4∧y.2.1.marks=[]∧y.2.2=[.row 1 ((D).map qk) g,.row 1 [[.sl 0 g 0 n false]] 0,.dead,.loop ⟨[(2,.ptr 1 0 0 0)],[]⟩ [7] qb qa .exhausted none]∧qbk y.2.1.vars 0=some (.sl 0 g 0 n cl)∧qbk y.2.1.vars 1=some (ii a)∧qbk y.2.1.vars 11=some (ii j)∧PInv (fun x=>x<v) (fun x=>¬x<v) P S Q a b v D (j+1) j:=by
 refine qcj (τ:=List Int×Nat×Nat) (fun s=>⟨[(0,.sl 0 g 0 n cl),(1,(ii a)),(10,(ii s.2.1)),(11,(ii s.2.2))],[]⟩) (fun s=>[.row 1 ((s.1).map qk) g,.row 1 [[.sl 0 g 0 n false]] 0,.dead,.loop ⟨[(2,.ptr 1 0 0 0)],[]⟩ [7] qb qa .exhausted none]) (fun s=>s.2.2+1-s.2.1)
  (fun s=>PInv (fun x=>x<v) (fun x=>¬x<v) P S Q a b v s.1 s.2.1 s.2.2) _ ?_ (D0,i0,j0) h0
 rintro⟨D,i,j⟩ h
 simp only at h⊢
 have hl:=h.len
 have h1:=h.i1;have h2:=h.j1
 obtain⟨⟨y1,e1,σ1⟩,k1,i',k2,k3,k4,k5,k6,k7,k8,k9,k10,k11,k12⟩:=part_up2 g cl n D (by omega) hb a i j v h.piv (by omega) h.ij
 simp only at k1 k2 k3 k4 k5 k6 k7 k8
 subst k2;subst k4
 have hu:=h.up k9 k10 k11
 obtain⟨⟨y2,e2,σ2⟩,l1,j',l2,l3,l4,l5,l6,l7,l8,l9,l10,l11,l12⟩:=qyc g cl n D (by omega) hb a i' j v h.piv (by omega) k10 (by omega)
 simp only at l1 l2 l3 l4 l5 l6 l7 l8
 subst l2;subst l4
 have hd:=hu.down l9 l10 l11
 by_cases hij:i'≤j'
 case neg=>
  have c1:(i':Int)>(j':Int):=by omega
  right
  simp only[qbz,c1,k1,k3,k5,k6,k7,k8,l1,l3,l7,l8,qe,wg,wf,zgy,↓qf,↓qaq,↓wd,wh,wa,we,wc]
  obtain rfl:i'=j'+1:=by have:=hd.ij;omega
  exact⟨_,rfl,D,j',rfl,rfl,rfl,by simp only[l5,wg,zgy,↓wd,wc],by simp only[l6,wg,zgy,↓wd,wa],by simp only[l8,wg,zgy,↓wd,wa],hd⟩
 have c1:¬(i':Int)>(j':Int):=by omega
 obtain⟨x,hx⟩ : ∃x,D[i']? = some x:=⟨_,zgE (by omega)⟩
 obtain⟨y,hy⟩ : ∃y,D[j']? = some y:=⟨_,zgE (by omega)⟩
 have nx:=k12 (by omega) x hx
 have ny:=l12 hij y hy
 have hne:i'≠j':=fun e=>by subst e;rw[hx]at hy;cases hy;exact ny nx
 obtain⟨m,hm⟩ : ∃m,j'=m+1:=⟨j'-1,by omega⟩
 have hs:=hd.swap ha hbb hm (by omega) hx hy (Classical.not_not.1 ny) nx
 obtain⟨z,hz⟩:=qfl hx hy
 obtain⟨D1,hD1⟩ : ∃D1,D1=(D.set i' y).set j' x:=⟨_,rfl⟩
 rw[←hD1]at hs
 have hr1:(((D.map qk).set i' [(ii y)]).set j' [(ii x)])=D1.map qk:=by rw[hD1,wi,wi];rfl
 have w1:IntKind.i64.wrap ((i':Int)+1)=((i'+1:Nat):Int):=qal (by omega)
 have w2:IntKind.i64.wrap ((j':Int)-1)=(m:Int):=qbn hm (by omega)
 have r1:i'<n:=by omega
 have r2:j'<n:=by omega
 left
 refine⟨(D1,i'+1,m),?_,hs,by simp only;omega⟩
 simp only[qbz,zgs,zgr,zgq,zgt,c1,k1,k3,k5,k6,k7,k8,l1,l3,l5,l6,l7,l8,hx,hy,hz,hr1,w1,w2,r1,r2,qk,qe,wg,wC,qc,wm,wt,wk,wf,zgy,↓qf,↓qaq,↓wd,wh,wa,we,wc]
theorem part_ev (P S Q:List Int) (a b p:Nat) (ha:a=P.length) (hbb:b=a+S.length) (hp:a≤p∧p<b) (hn:n=(P++(S++Q)).length) (hb:n<2^60) :
  ∃(L R:List Int) (v:Int) (r:Bool),(L++v::R).Perm S∧(∀x∈L,x<v)∧(∀x∈R,¬x<v) ∧
   (evL T).call qar [.sl 0 g 0 n cl,(ii a),(ii b),(ii p)] [.row 1 ((P++(S++Q)).map qk) g,.row 1 [[.sl 0 g 0 n false]] 0,.dead,.loop ⟨[(2,.ptr 1 0 0 0)],[]⟩ [7] qb qa .exhausted none]=some (.tup [(ii ((a+L.length:Nat))),(bb r)],[.row 1 ((P++((L++v::R)++Q)).map qk) g,.row 1 [[.sl 0 g 0 n false]] 0,.dead,.loop ⟨[(2,.ptr 1 0 0 0)],[]⟩ [7] qb qa .exhausted none]):=by
 have hlen:n=P.length+(S.length+Q.length):=by rw[hn];simp
 obtain⟨D,hD⟩ : ∃D,D=P++(S++Q):=⟨_,rfl⟩
 have hDl:D.length=n:=by rw[hD];exact hn.symm
 obtain⟨u,hu⟩ : ∃x,D[a]? = some x:=⟨_,zgE (by omega)⟩
 obtain⟨v,hv⟩ : ∃x,D[p]? = some x:=⟨_,zgE (by omega)⟩
 have h0:=PInv.init (Lo:=fun x=>x<v) (Hi:=fun x=>¬x<v) ha hbb (by omega) hp hD hu hv
 obtain⟨z0,hz0⟩:=qfl hu hv
 obtain⟨D0,hD0⟩ : ∃D0,D0=(D.set a v).set p u:=⟨_,rfl⟩
 rw[←hD0]at h0
 have hr0:(((D.map qk).set a [(ii v)]).set p [(ii u)])=D0.map qk:=by rw[hD0,wi,wi];rfl
 have hl0:=h0.len
 obtain⟨c,hc⟩ : ∃c,b=c+1:=⟨b-1,by omega⟩
 rw[show b-1=c by omega]at h0
 have w1:IntKind.i64.wrap ((a:Int)+1)=((a+1:Nat):Int):=qal (by omega)
 have w2:IntKind.i64.wrap ((b:Int)-1)=(c:Int):=qbn hc (by omega)
 have ra:a<n:=by omega
 have rp:p<n:=by omega
 obtain⟨⟨y1,e1,σ1⟩,k1,i',k2,k3,k4,k5,k6,k7,k8,k9,k10,k11,k12⟩:=part_up1 g cl n D0 (by omega) hb a (a+1) c v h0.piv (by omega) h0.ij
 simp only at k1 k2 k3 k4 k5 k6 k7 k8
 subst k2;subst k4
 have hu1:=h0.up k9 k10 k11
 obtain⟨⟨y2,e2,σ2⟩,l1,j',l2,l3,l4,l5,l6,l7,l8,l9,l10,l11,l12⟩:=qy2 g cl n D0 (by omega) hb a i' c v h0.piv (by omega) k10 (by omega)
 simp only at l1 l2 l3 l4 l5 l6 l7 l8
 subst l2;subst l4
 have hd:=hu1.down l9 l10 l11
 rw[←hD]
 have gv0:=h0.piv
 by_cases hij:i'≤j'
 case neg=>
  have c1:(i':Int)>(j':Int):=by omega
  obtain rfl:i'=j'+1:=by have:=hd.ij;omega
  obtain⟨y,hy⟩ : ∃y,D0[j']? = some y:=⟨_,zgE (by omega)⟩
  obtain⟨L,R,f1,f2,f3,f4,f5⟩:=hd.final ha hbb hy
  obtain⟨z,hz⟩:=qfl hy gv0
  obtain⟨D1,hD1⟩ : ∃D1,D1=(D0.set j' v).set a y:=⟨_,rfl⟩
  have hr1:(((D0.map qk).set j' [(ii v)]).set a [(ii y)])=D1.map qk:=by rw[hD1,wi,wi];rfl
  have r2:j'<n:=by omega
  refine⟨L,R,v,true,f2,f3,f4,?_⟩
  rw[←f1,←hD1,←f5]
  rw[qj qet qem]
  simp only[qbl,zgs,zgr,zgq,zgt,hu,hv,hz0,hr0,w1,w2,ra,rp,k1,k3,k5,k6,k7,k8,l1,l3,l5,l6,l7,l8,c1,hy,gv0,hz,hr1,r2,qk,qe,wg,wC,qc,wm,wt,wk,qn,wf,zgy,↓qf,↓qaq,↓wd,wh,wa,we,wc]
 have c1:¬(i':Int)>(j':Int):=by omega
 obtain⟨x,hx⟩ : ∃x,D0[i']? = some x:=⟨_,zgE (by omega)⟩
 obtain⟨y,hy⟩ : ∃y,D0[j']? = some y:=⟨_,zgE (by omega)⟩
 have nx:=k12 (by omega) x hx
 have ny:=l12 hij y hy
 have hne:i'≠j':=fun e=>by subst e;rw[hx]at hy;cases hy;exact ny nx
 obtain⟨m,hm⟩ : ∃m,j'=m+1:=⟨j'-1,by have:=h0.i1;omega⟩
 have hs:=hd.swap ha hbb hm (by omega) hx hy (Classical.not_not.1 ny) nx
 obtain⟨z,hz⟩:=qfl hx hy
 obtain⟨D1,hD1⟩ : ∃D1,D1=(D0.set i' y).set j' x:=⟨_,rfl⟩
 rw[←hD1]at hs
 have hr1:(((D0.map qk).set i' [(ii y)]).set j' [(ii x)])=D1.map qk:=by rw[hD1,wi,wi];rfl
 have w3:IntKind.i64.wrap ((i':Int)+1)=((i'+1:Nat):Int):=qal (by omega)
 have w4:IntKind.i64.wrap ((j':Int)-1)=(m:Int):=qbn hm (by omega)
 have r1:i'<n:=by omega
 have r2:j'<n:=by omega
 obtain⟨⟨y3,e3,σ3⟩,m1,D2,j2,m2,m3,m4,m5,m6,m7,m8⟩:=qyk g cl n P S Q a b v ha hbb hlen hb D1 (i'+1) m hs
 simp only at m1 m2 m3 m4 m5 m6 m7
 subst m2;subst m4
 have hl2:=m8.len
 have hj2:=m8.j1
 obtain⟨q,hq⟩ : ∃y,D2[j2]? = some y:=⟨_,zgE (by omega)⟩
 obtain⟨L,R,f1,f2,f3,f4,f5⟩:=m8.final ha hbb hq
 have gv2:=m8.piv
 obtain⟨z2,hz2⟩:=qfl hq gv2
 obtain⟨D3,hD3⟩ : ∃D3,D3=(D2.set j2 v).set a q:=⟨_,rfl⟩
 have hr3:(((D2.map qk).set j2 [(ii v)]).set a [(ii q)])=D3.map qk:=by rw[hD3,wi,wi];rfl
 have r3:j2<n:=by omega
 refine⟨L,R,v,false,f2,f3,f4,?_⟩
 rw[←f1,←hD3,←f5]
 rw[qj qet qem]
 simp only[qbl,zgs,zgr,zgq,zgt,hu,hv,hz0,hr0,w1,w2,ra,rp,k1,k3,k5,k6,k7,k8,l1,l3,l5,l6,l7,l8,c1,hx,hy,hz,hr1,w3,w4,r1,r2,m1,m3,m5,m6,m7,hq,gv2,hz2,hr3,r3,qk,qe,wg,wC,qc,wm,wt,wk,qn,wf,zgy,↓qf,↓qaq,↓wd,wh,wa,we,wc]
theorem qz0 (P S Q:List Int) (a b:Nat) (v:Int) (ha:a=P.length) (hbb:b=a+S.length) (hn:n=P.length+(S.length+Q.length)) (hb:n<2^60) (D0:List Int) (i0 j0:Nat) (h0:PInv (fun x=>¬v<x) (fun x=>v<x) P S Q a b v D0 i0 j0) :
  ∃y,itB (exec (evL T) itL none qbb) (qca [0,1,9,10] true 4) ⟨[(0,.sl 0 g 0 n cl),(1,(ii a)),(9,(ii i0)),(10,(ii j0))],[]⟩ [.row 1 ((D0).map qk) g,.row 1 [[.sl 0 g 0 n false]] 0,.dead,.loop ⟨[(2,.ptr 1 0 0 0)],[]⟩ [7] qb qa .exhausted none]=some y ∧
   ∃(D:List Int) (j:Nat),y.1 = .exit 0∧y.2.1.marks=[]∧y.2.2=[.row 1 ((D).map qk) g,.row 1 [[.sl 0 g 0 n false]] 0,.dead,.loop ⟨[(2,.ptr 1 0 0 0)],[]⟩ [7] qb qa .exhausted none]∧qbk y.2.1.vars 9=some (ii ((j+1:Nat)))∧PInv (fun x=>¬v<x) (fun x=>v<x) P S Q a b v D (j+1) j:=by
 refine qcj (τ:=List Int×Nat×Nat) (fun s=>⟨[(0,.sl 0 g 0 n cl),(1,(ii a)),(9,(ii s.2.1)),(10,(ii s.2.2))],[]⟩) (fun s=>[.row 1 ((s.1).map qk) g,.row 1 [[.sl 0 g 0 n false]] 0,.dead,.loop ⟨[(2,.ptr 1 0 0 0)],[]⟩ [7] qb qa .exhausted none]) (fun s=>s.2.2+1-s.2.1)
  (fun s=>PInv (fun x=>¬v<x) (fun x=>v<x) P S Q a b v s.1 s.2.1 s.2.2) _ ?_ (D0,i0,j0) h0
 rintro⟨D,i,j⟩ h
 simp only at h⊢
 have hl:=h.len
 have h1:=h.i1;have h2:=h.j1
 obtain⟨⟨y1,e1,σ1⟩,k1,i',k2,k3,k4,k5,k6,k7,k8,k9,k10,k11,k12⟩:=peq_up g cl n D (by omega) hb a i j v h.piv (by omega) h.ij
 simp only at k1 k2 k3 k4 k5 k6 k7 k8
 subst k2;subst k4
 have hu:=h.up k9 k10 k11
 obtain⟨⟨y2,e2,σ2⟩,l1,j',l2,l3,l4,l5,l6,l7,l8,l9,l10,l11,l12⟩:=peq_down g cl n D (by omega) hb a i' j v h.piv (by omega) k10 (by omega)
 simp only at l1 l2 l3 l4 l5 l6 l7 l8
 subst l2;subst l4
 have hd:=hu.down l9 l10 l11
 by_cases hij:i'≤j'
 case neg=>
  have c1:(i':Int)>(j':Int):=by omega
  right
  simp only[qbb,c1,k1,k3,k5,k6,k7,k8,l1,l3,l7,l8,qe,wg,wf,zgy,↓qf,↓qaq,↓wd,wh,wa,we,wc]
  obtain rfl:i'=j'+1:=by have:=hd.ij;omega
  exact⟨_,rfl,D,j',rfl,rfl,rfl,by simp only[l7,wg,zgy,↓wd,wa],hd⟩
 have c1:¬(i':Int)>(j':Int):=by omega
 obtain⟨x,hx⟩ : ∃x,D[i']? = some x:=⟨_,zgE (by omega)⟩
 obtain⟨y,hy⟩ : ∃y,D[j']? = some y:=⟨_,zgE (by omega)⟩
 have nx:=k12 (by omega) x hx
 have ny:=l12 hij y hy
 have hne:i'≠j':=fun e=>by subst e;rw[hx]at hy;cases hy;exact nx ny
 obtain⟨m,hm⟩ : ∃m,j'=m+1:=⟨j'-1,by omega⟩
 have hs:=hd.swap ha hbb hm (by omega) hx hy ny (Classical.not_not.1 nx)
 obtain⟨z,hz⟩:=qfl hx hy
 obtain⟨D1,hD1⟩ : ∃D1,D1=(D.set i' y).set j' x:=⟨_,rfl⟩
 rw[←hD1]at hs
 have hr1:(((D.map qk).set i' [(ii y)]).set j' [(ii x)])=D1.map qk:=by rw[hD1,wi,wi];rfl
 have w1:IntKind.i64.wrap ((i':Int)+1)=((i'+1:Nat):Int):=qal (by omega)
 have w2:IntKind.i64.wrap ((j':Int)-1)=(m:Int):=qbn hm (by omega)
 have r1:i'<n:=by omega
 have r2:j'<n:=by omega
 left
 refine⟨(D1,i'+1,m),?_,hs,by simp only;omega⟩
 simp only[qbb,zgs,zgr,zgq,zgt,c1,k1,k3,k5,k6,k7,k8,l1,l3,l5,l6,l7,l8,hx,hy,hz,hr1,w1,w2,r1,r2,qk,qe,wg,wC,qc,wm,wt,wk,wf,zgy,↓qf,↓qaq,↓wd,wh,wa,we,wc]
theorem peq_ev (P S Q:List Int) (a b p:Nat) (ha:a=P.length) (hbb:b=a+S.length) (hp:a≤p∧p<b) (hn:n=(P++(S++Q)).length) (hb:n<2^60) (v:Int) (hv:(P++(S++Q))[p]? = some v) :
  ∃L R:List Int,(L++R).Perm S∧(∀x∈L,x≤v)∧(∀x∈R,v<x)∧0<L.length ∧
   (evL T).call qz [.sl 0 g 0 n cl,(ii a),(ii b),(ii p)] [.row 1 ((P++(S++Q)).map qk) g,.row 1 [[.sl 0 g 0 n false]] 0,.dead,.loop ⟨[(2,.ptr 1 0 0 0)],[]⟩ [7] qb qa .exhausted none]=some ((ii ((a+L.length:Nat))),[.row 1 ((P++((L++R)++Q)).map qk) g,.row 1 [[.sl 0 g 0 n false]] 0,.dead,.loop ⟨[(2,.ptr 1 0 0 0)],[]⟩ [7] qb qa .exhausted none]):=by
 have hlen:n=P.length+(S.length+Q.length):=by rw[hn];simp
 obtain⟨D,hD⟩ : ∃D,D=P++(S++Q):=⟨_,rfl⟩
 rw[←hD]at hv⊢
 have hDl:D.length=n:=by rw[hD];exact hn.symm
 obtain⟨u,hu⟩ : ∃x,D[a]? = some x:=⟨_,zgE (by omega)⟩
 have h0:=PInv.init (Lo:=fun x=>¬v<x) (Hi:=fun x=>v<x) ha hbb (by omega) hp hD hu hv
 obtain⟨z0,hz0⟩:=qfl hu hv
 obtain⟨D0,hD0⟩ : ∃D0,D0=(D.set a v).set p u:=⟨_,rfl⟩
 rw[←hD0]at h0
 have hr0:(((D.map qk).set a [(ii v)]).set p [(ii u)])=D0.map qk:=by rw[hD0,wi,wi];rfl
 obtain⟨c,hc⟩ : ∃c,b=c+1:=⟨b-1,by omega⟩
 rw[show b-1=c by omega]at h0
 have w1:IntKind.i64.wrap ((a:Int)+1)=((a+1:Nat):Int):=qal (by omega)
 have w2:IntKind.i64.wrap ((b:Int)-1)=(c:Int):=qbn hc (by omega)
 have ra:a<n:=by omega
 have rp:p<n:=by omega
 obtain⟨⟨y3,e3,σ3⟩,m1,D2,j2,m2,m3,m4,m5,m6⟩:=qz0 g cl n P S Q a b v ha hbb hlen hb D0 (a+1) c h0
 simp only at m1 m2 m3 m4 m5
 subst m2;subst m4
 have hj:=m6.i1
 obtain⟨L,R,f1,f2,f3,f4,f5⟩:=m6.equal ha hbb
 refine⟨L,R,f2,fun x hx=>by rcases f3 x hx with h|h<;>omega,f4,by omega,?_⟩
 rw[←f1,←f5]
 rw[qj qge qf8]
 simp only[qbm,zgs,zgr,zgq,zgt,hu,hv,hz0,hr0,w1,w2,ra,rp,m1,m3,m5,qk,qe,wg,wC,qc,wm,wt,wk,qn,wf,zgy,↓qf,↓qaq,↓wd,wh,wa,we,wc]
end
open Go.Ev
set_option maxRecDepth 10000
section
variable (g:Nat) (cl:Bool) (n:Nat)
theorem rev_ev (P S Q:List Int) (a b:Nat) (ha:a=P.length) (hbb:b=a+S.length) (hS:0<S.length) (hn:n=(P++(S++Q)).length) (hb:n<2^60) :
  ∃S':List Int,S'.Perm S∧(evL T).call qae [.sl 0 g 0 n cl,(ii a),(ii b)] [.row 1 ((P++(S++Q)).map qk) g,.row 1 [[.sl 0 g 0 n false]] 0,.dead,.loop ⟨[(2,.ptr 1 0 0 0)],[]⟩ [7] qb qa .exhausted none]=some (.tup [],[.row 1 ((P++(S'++Q)).map qk) g,.row 1 [[.sl 0 g 0 n false]] 0,.dead,.loop ⟨[(2,.ptr 1 0 0 0)],[]⟩ [7] qb qa .exhausted none]):=by
 have hlen:n=P.length+(S.length+Q.length):=by rw[hn];simp
 obtain⟨c,hc⟩ : ∃c,b=c+1:=⟨b-1,by omega⟩
 have key:=qcj (f:=exec (evL T) itL none qbh) (s:=qca [0,6,7] true 4) (τ:=List Int×Nat×Nat)
  (fun s=>⟨[(0,.sl 0 g 0 n cl),(6,(ii s.2.1)),(7,(ii s.2.2))],[]⟩) (fun s=>[.row 1 ((s.1).map qk) g,.row 1 [[.sl 0 g 0 n false]] 0,.dead,.loop ⟨[(2,.ptr 1 0 0 0)],[]⟩ [7] qb qa .exhausted none]) (fun s=>s.2.2-s.2.1)
  (fun s=>(∃S',s.1=P++(S'++Q)∧S'.Perm S)∧a≤s.2.1∧s.2.2+1≤b)
  (fun y=>y.1 = .exit 0∧y.2.1.marks=[] ∧ ∃S':List Int,S'.Perm S∧y.2.2=[.row 1 ((P++(S'++Q)).map qk) g,.row 1 [[.sl 0 g 0 n false]] 0,.dead,.loop ⟨[(2,.ptr 1 0 0 0)],[]⟩ [7] qb qa .exhausted none]) ?_ (P++(S++Q),a,c) ⟨⟨S,rfl,.refl _⟩,wv _,by simp only;omega⟩
 ·obtain⟨⟨y,e,σ⟩,k1,k2,k3,S',k4,k5⟩:=key
  simp only at k1 k2 k3 k5
  subst k2;subst k5
  refine⟨S',k4,?_⟩
  have w1:IntKind.i64.wrap ((b:Int)-1)=(c:Int):=qbn hc (by omega)
  rw[qj qg2 qgo]
  simp only[qb0,w1,k1,k3,qe,wg,qn,wf,zgy,↓qf,↓qaq,↓wd,wh,wa,we,wc]
 ·rintro⟨D,i,j⟩ ⟨⟨S',hD,hp⟩,hi,hj⟩
  simp only at hD hi hj⊢
  have hl:=hp.length_eq
  have hDl:D.length=n:=by rw[hD,hlen];simp[hl]
  by_cases hij:i<j
  case neg=>
   have c1:¬(i:Int)<(j:Int):=by omega
   right
   simp only[qbh,c1,wg,zgy,↓qf,↓wd,wa,wc]
   exact⟨_,rfl,rfl,rfl,S',hp,by rw[hD]⟩
  have c1:(i:Int)<(j:Int):=by omega
  obtain⟨x,hx⟩ : ∃x,D[i]? = some x:=⟨_,zgE (by omega)⟩
  obtain⟨y,hy⟩ : ∃y,D[j]? = some y:=⟨_,zgE (by omega)⟩
  obtain⟨m,hm⟩ : ∃m,j=m+1:=⟨j-1,by omega⟩
  obtain⟨S2,e1,e2⟩:=qm1 hD ha hi (by omega) (by omega) (by omega) hx hy
  obtain⟨z,hz⟩:=qfl hx hy
  obtain⟨D1,hD1⟩ : ∃D1,D1=(D.set i y).set j x:=⟨_,rfl⟩
  have hr1:(((D.map qk).set i [(ii y)]).set j [(ii x)])=D1.map qk:=by rw[hD1,wi,wi];rfl
  have w1:IntKind.i64.wrap ((i:Int)+1)=((i+1:Nat):Int):=qal (by omega)
  have w2:IntKind.i64.wrap ((j:Int)-1)=(m:Int):=qbn hm (by omega)
  have r1:i<n:=by omega
  have r2:j<n:=by omega
  left
  refine⟨(D1,i+1,m),?_,⟨⟨S2,by rw[hD1];exact e1,e2.trans hp⟩,by simp only;omega,by simp only;omega⟩,by simp only;omega⟩
  simp only[qbh,zgs,zgr,zgq,zgt,c1,hx,hy,hz,hr1,w1,w2,r1,r2,qk,qe,wg,wC,qc,wm,wt,wk,wf,zgy,↓qf,↓wd,wa,we,wc]
theorem qr4 (D:List Int) (hn:n=D.length) (a b:Nat) (ha:a<n) (hb:b<n) (s:Int) :
  ∃(p q:Nat) (s':Int),(p=a∧q=b∨p=b∧q=a)∧(evL T).call qag [.sl 0 g 0 n cl,(ii a),(ii b),.ptr 4 0 0 0] [.row 1 ((D).map qk) g,.row 1 [[.sl 0 g 0 n false]] 0,.dead,.loop ⟨[(2,.ptr 1 0 0 0)],[]⟩ [7] qb qa .exhausted none,.row 1 [[(ii s)]] 0]=some (.tup [(ii p),(ii q)],[.row 1 ((D).map qk) g,.row 1 [[.sl 0 g 0 n false]] 0,.dead,.loop ⟨[(2,.ptr 1 0 0 0)],[]⟩ [7] qb qa .exhausted none,.row 1 [[(ii s')]] 0]):=by
 obtain⟨x,hx⟩ : ∃x,D[a]? = some x:=⟨_,zgE (by omega)⟩
 obtain⟨y,hy⟩ : ∃y,D[b]? = some y:=⟨_,zgE (by omega)⟩
 have hc:=qbd y x
 by_cases hlt:y<x<;>simp only[hlt,zgv,zgw]at hc
 ·refine⟨b,a,IntKind.i64.wrap (s+1),.inr ⟨rfl,rfl⟩,?_⟩
  rw[qj qfk qfh]
  simp only[qcb,zgs,zgr,zgq,zgt,hx,hy,ha,hb,hc,qk,qe,wg,wC,qc,wm,wt,wk,qn,wf,zgy,↓qf,↓wd,wh,wa,we,wc]
 ·refine⟨a,b,s,.inl ⟨rfl,rfl⟩,?_⟩
  rw[qj qfk qfh]
  simp only[qcb,zgs,zgr,zgq,zgt,hx,hy,ha,hb,hc,qk,qe,wg,qc,qn,wf,zgy,↓qf,↓wd,wh,wa,we,wc]
theorem qrv (D:List Int) (hn:n=D.length) (a b c:Nat) (ha:a<n) (hb:b<n) (hc:c<n) (s:Int) :
  ∃(m:Nat) (s':Int),(m=a∨m=b∨m=c)∧(evL T).call qas [.sl 0 g 0 n cl,(ii a),(ii b),(ii c),.ptr 4 0 0 0] [.row 1 ((D).map qk) g,.row 1 [[.sl 0 g 0 n false]] 0,.dead,.loop ⟨[(2,.ptr 1 0 0 0)],[]⟩ [7] qb qa .exhausted none,.row 1 [[(ii s)]] 0]=some ((ii m),[.row 1 ((D).map qk) g,.row 1 [[.sl 0 g 0 n false]] 0,.dead,.loop ⟨[(2,.ptr 1 0 0 0)],[]⟩ [7] qb qa .exhausted none,.row 1 [[(ii s')]] 0]):=by
 obtain⟨p1,q1,s1,h1,k1⟩:=qr4 g cl n D hn a b ha hb s
 obtain⟨p2,q2,s2,h2,k2⟩:=qr4 g cl n D hn q1 c (by omega) hc s1
 obtain⟨p3,q3,s3,h3,k3⟩:=qr4 g cl n D hn p1 p2 (by omega) (by omega) s2
 refine⟨q3,s3,by omega,?_⟩
 rw[qj qiq qij]
 simp only[qc6,k1,k2,k3,qe,wg,qn,wf,zgy,↓qf,↓wd,wh,wa,we,wc]
theorem q0o (D:List Int) (hn:n=D.length) (hb:n<2^60) (a:Nat) (h1:1≤a) (h2:a+1<n) (s:Int) :
  ∃(m:Nat) (s':Int),a≤m+1∧m≤a+1∧(evL T).call qr [.sl 0 g 0 n cl,(ii a),.ptr 4 0 0 0] [.row 1 ((D).map qk) g,.row 1 [[.sl 0 g 0 n false]] 0,.dead,.loop ⟨[(2,.ptr 1 0 0 0)],[]⟩ [7] qb qa .exhausted none,.row 1 [[(ii s)]] 0]=some ((ii m),[.row 1 ((D).map qk) g,.row 1 [[.sl 0 g 0 n false]] 0,.dead,.loop ⟨[(2,.ptr 1 0 0 0)],[]⟩ [7] qb qa .exhausted none,.row 1 [[(ii s')]] 0]):=by
 obtain⟨c,hc⟩ : ∃c,a=c+1:=⟨a-1,by omega⟩
 obtain⟨m,s',hm,k⟩:=qrv g cl n D hn c a (a+1) (by omega) (by omega) h2 s
 have w1:IntKind.i64.wrap ((a:Int)-1)=(c:Int):=qbn hc (by omega)
 have w2:IntKind.i64.wrap ((a:Int)+1)=((a+1:Nat):Int):=qal (by omega)
 refine⟨m,s',by omega,by omega,?_⟩
 rw[qj qga qf7]
 simp only[qbo,w1,w2,k,qe,wg,qn,wf,zgy,↓qf,↓wd,wh,wa,we,wc]
theorem qwf (D:List Int) (hn:n=D.length) (a b l:Nat) (hl:b=a+l) (hbn:b≤n) (h13:13≤l∧l≤80) (hb:n<2^60) :
  ∃(p:Nat) (h:Int),a≤p∧p<b∧(evL T).call qai [.sl 0 g 0 n cl,(ii a),(ii b)] [.row 1 ((D).map qk) g,.row 1 [[.sl 0 g 0 n false]] 0,.dead,.loop ⟨[(2,.ptr 1 0 0 0)],[]⟩ [7] qb qa .exhausted none]=some (.tup [(ii p),(ii h)],[.row 1 ((D).map qk) g,.row 1 [[.sl 0 g 0 n false]] 0,.dead,.loop ⟨[(2,.ptr 1 0 0 0)],[]⟩ [7] qb qa .exhausted none]):=by
 obtain⟨q,hq⟩ : ∃q,q=l / 4:=⟨_,rfl⟩
 have w0:IntKind.i64.wrap ((b:Int)-(a:Int))=(l:Int):=qg6 hl (by omega)
 have w1:IntKind.i64.wrap ((l:Int).tdiv 4)=(q:Int):=by
  rw[show (l:Int).tdiv 4=(q:Int) by rw[wF (by omega)];omega];exact qan (by omega) (by omega)
 have w2:IntKind.i64.wrap ((q:Int)*1)=(q:Int):=by rw[qan (by omega) (by omega)];omega
 have w3:IntKind.i64.wrap ((q:Int)*2)=((2*q:Nat):Int):=by rw[qan (by omega) (by omega)];omega
 have w4:IntKind.i64.wrap ((q:Int)*3)=((3*q:Nat):Int):=by rw[qan (by omega) (by omega)];omega
 have w5:IntKind.i64.wrap ((a:Int)+(q:Int))=((a+q:Nat):Int):=qke (by omega)
 have w6:IntKind.i64.wrap ((a:Int)+((2*q:Nat):Int))=((a+2*q:Nat):Int):=qke (by omega)
 have w7:IntKind.i64.wrap ((a:Int)+((3*q:Nat):Int))=((a+3*q:Nat):Int):=qke (by omega)
 have c1:(l:Int)≥8:=by omega
 by_cases h50:l<50
 ·have c2:¬(l:Int)≥50:=by omega
  obtain⟨m,s,hm,km⟩:=qrv g cl n D hn (a+q) (a+2*q) (a+3*q) (by omega) (by omega) (by omega) 0
  by_cases hs0:s=0
  ·refine⟨m,1,by omega,by omega,?_⟩
   rw[qj qap qam]
   subst hs0
   simp only[qw,w0,w1,w2,w3,w4,w5,w6,w7,c1,c2,km,qe,wg,qc,wk,qn,wf,ne_eq,zgy,↓qf,↓wd,wh,wa,we,wy,wc]
  by_cases hs12:s=12
  ·refine⟨m,2,by omega,by omega,?_⟩
   rw[qj qap qam]
   subst hs12
   simp only[qw,w0,w1,w2,w3,w4,w5,w6,w7,c1,c2,km,qe,wg,qc,wk,qn,wf,ne_eq,zgy,↓qf,↓wd,wh,wa,we,wy,wc]
  ·refine⟨m,0,by omega,by omega,?_⟩
   rw[qj qap qam]
   simp only[qw,w0,w1,w2,w3,w4,w5,w6,w7,c1,c2,km,hs0,hs12,qe,wg,qc,wk,qn,wf,ne_eq,zgy,↓qf,↓wd,wh,wa,we,wy,wc]
 ·have c2:(l:Int)≥50:=by omega
  obtain⟨i1,s1,i2,i3,k1⟩:=q0o g cl n D hn hb (a+q) (by omega) (by omega) 0
  obtain⟨j1,s2,j2,j3,k2⟩:=q0o g cl n D hn hb (a+2*q) (by omega) (by omega) s1
  obtain⟨l1,s3,l2,l3,k3⟩:=q0o g cl n D hn hb (a+3*q) (by omega) (by omega) s2
  obtain⟨m,s,hm,km⟩:=qrv g cl n D hn i1 j1 l1 (by omega) (by omega) (by omega) s3
  by_cases hs0:s=0
  ·refine⟨m,1,by omega,by omega,?_⟩
   rw[qj qap qam]
   subst hs0
   simp only[qw,w0,w1,w2,w3,w4,w5,w6,w7,c1,c2,k1,k2,k3,km,qe,wg,qc,wk,qn,wf,ne_eq,zgy,↓qf,↓wd,wh,wa,we,wy,wc]
  by_cases hs12:s=12
  ·refine⟨m,2,by omega,by omega,?_⟩
   rw[qj qap qam]
   subst hs12
   simp only[qw,w0,w1,w2,w3,w4,w5,w6,w7,c1,c2,k1,k2,k3,km,qe,wg,qc,wk,qn,wf,ne_eq,zgy,↓qf,↓wd,wh,wa,we,wy,wc]
  ·refine⟨m,0,by omega,by omega,?_⟩
   rw[qj qap qam]
   simp only[qw,w0,w1,w2,w3,w4,w5,w6,w7,c1,c2,k1,k2,k3,km,hs0,hs12,qe,wg,qc,wk,qn,wf,ne_eq,zgy,↓qf,↓wd,wh,wa,we,wy,wc]
end
open Go.Ev
set_option maxRecDepth 10000
def xorV (a b:Int):Int:=IntKind.u64.wrap (((BitVec.ofInt 64 a ^^^ BitVec.ofInt 64 b).toNat:Nat):Int)
def andV (a b:Int):Int:=IntKind.u64.wrap (((BitVec.ofInt 64 a &&& BitVec.ofInt 64 b).toNat:Nat):Int)
def shlV (a b:Int):Int:=IntKind.u64.wrap (a*2^(min b.toNat 64))
def shrV (a b:Int):Int:=a.fdiv (2^(min b.toNat 64))
theorem bin_xor (a b:Int):qfo .xor (.v (.int .u64 (a))) (.v (.int .u64 (b)))=some (.v (.int .u64 (xorV a b))):=rfl
theorem q1b (a b:Int):qfo .and (.v (.int .u64 (a))) (.v (.int .u64 (b)))=some (.v (.int .u64 (andV a b))):=rfl
theorem q0r (a b:Int) (h:¬b<0):qfo .shl (.v (.int .u64 (a))) (.v (.int .u64 (b)))=some (.v (.int .u64 (shlV a b))):=by
 show (if b<0 then none else _) = _
 rw[if_neg h];rfl
theorem bin_shr (a b:Int) (h:¬b<0):qfo .shr (.v (.int .u64 (a))) (.v (.int .u64 (b)))=some (.v (.int .u64 (shrV a b))):=by
 show (if b<0 then none else _) = _
 rw[if_neg h];rfl
theorem qvj {n:Nat} (h:n<2^63):IntKind.u64.wrap (n:Int)=(n:Int):=by
 have h3:IntKind.u64.bits=64:=rfl
 have h4:IntKind.u64.signed=false:=rfl
 simp only[IntKind.wrap,h3,h4,Bool.false_and,zfa,if_false]
 omega
theorem and_le (a:Int) (m:Nat) (h:m<2^63) : ∃k:Nat,andV a (m:Int)=(k:Int)∧k≤m:=by
 refine⟨(BitVec.ofInt 64 a &&& BitVec.ofInt 64 (m:Int)).toNat,?_,?_⟩
 ·have:(BitVec.ofInt 64 a &&& BitVec.ofInt 64 (m:Int)).toNat≤m:=by
   rw[BitVec.toNat_and]
   refine Nat.le_trans Nat.and_le_right ?_
   rw[BitVec.ofInt_natCast,BitVec.toNat_ofNat]
   exact Nat.mod_le _ _
  exact qvj (by omega)
 ·rw[BitVec.toNat_and]
  refine Nat.le_trans Nat.and_le_right ?_
  rw[BitVec.ofInt_natCast,BitVec.toNat_ofNat]
  exact Nat.mod_le _ _
theorem pow2_all:(List.range 81).map (fun l:Nat=>if 13≤l then ((evF T 8).call qa4 [(ii ((l:Int)))] []).bind (fun x=>frz x.2 6 x.1)else none) =
  (List.range 81).map (fun l:Nat=>if 13≤l then some (.v (.int .u64 ((((if l<16 then 15 else if l<32 then 31 else if l<64 then 63 else 127)+1:Nat):Int))))else none):=by kernel_rfl
theorem len_all:(List.range 81).map (fun l:Nat=>((evF T 8).call qct [(.v (.int .u64 ((l:Int))))] []).bind (fun x=>frz x.2 6 x.1)) =
  (List.range 81).map (fun l:Nat=>some (ii ((((if l<1 then 0 else if l<2 then 1 else if l<4 then 2 else if l<8 then 3 else if l<16 then 4 else if l<32 then 5 else if l<64 then 6 else 7):Nat):Int)))):=by kernel_rfl
theorem qx0 {α:Type} {f g:Nat→α} {n:Nat} (h:(List.range n).map f=(List.range n).map g) (l:Nat) (hl:l<n):f l=g l:=by
 have:=congrArg (fun x=>x[l]?) h
 simpa[hl]using this
theorem pow2_ev : ∀l:Nat,13≤l→l≤80 → ∃m:Nat,qu (evL T) qa4 [(ii l)]=some (.v (.int .u64 ((m+1:Nat))))∧m+1≤2*l∧m<2^62:=by
 intro l h1 h2
 have:=qx0 pow2_all l (by omega)
 simp only[h1,if_true]at this
 refine⟨_,qph 8 this,?_,?_⟩
 ·split<;>(try split)<;>(try split)<;>omega
 ·split<;>(try split)<;>(try split)<;>omega
theorem len_ev : ∀l:Nat,l≤80 → ∃m:Nat,qu (evL T) qct [(.v (.int .u64 (l)))]=some (ii m)∧m<100:=by
 intro l h
 refine⟨_,qph 8 (qx0 len_all l (by omega)),?_⟩
 repeat (first|omega|split)
section
variable (g:Nat) (cl:Bool) (n:Nat)
theorem xor_ev (D:List Int) (x:Int) : ∃v:Int,(evL T).call qbr [.ptr 4 0 0 0] [.row 1 ((D).map qk) g,.row 1 [[.sl 0 g 0 n false]] 0,.dead,.loop ⟨[(2,.ptr 1 0 0 0)],[]⟩ [7] qb qa .exhausted none,.row 1 [[(.v (.int .u64 (x)))]] 0]=some ((.v (.int .u64 (v))),[.row 1 ((D).map qk) g,.row 1 [[.sl 0 g 0 n false]] 0,.dead,.loop ⟨[(2,.ptr 1 0 0 0)],[]⟩ [7] qb qa .exhausted none,.row 1 [[(.v (.int .u64 (v)))]] 0]):=by
 refine⟨xorV (xorV (xorV x (shlV x 13)) (shrV (xorV x (shlV x 13)) 7)) (shlV (xorV (xorV x (shlV x 13)) (shrV (xorV x (shlV x 13)) 7)) 17),?_⟩
 rw[qj qkz qj5]
 have s1:=fun a=>q0r a 13 (by omega)
 have s2:=fun a=>bin_shr a 7 (by omega)
 have s3:=fun a=>q0r a 17 (by omega)
 simp only[qd9,bin_xor,s1,s2,s3,qe,wg,wC,qc,wm,wt,wk,qn,wf,zgy,↓qf,↓wd,wh,wa,we,wc]
theorem brk_ev (P S Q:List Int) (a b:Nat) (ha:a=P.length) (hbb:b=a+S.length) (hS:13≤S.length∧S.length≤80) (hn:n=(P++(S++Q)).length) (hb:n<2^60) :
  ∃S':List Int,S'.Perm S∧(evL T).call qad [.sl 0 g 0 n cl,(ii a),(ii b)] [.row 1 ((P++(S++Q)).map qk) g,.row 1 [[.sl 0 g 0 n false]] 0,.dead,.loop ⟨[(2,.ptr 1 0 0 0)],[]⟩ [7] qb qa .exhausted none]=some (.tup [],[.row 1 ((P++(S'++Q)).map qk) g,.row 1 [[.sl 0 g 0 n false]] 0,.dead,.loop ⟨[(2,.ptr 1 0 0 0)],[]⟩ [7] qb qa .exhausted none]):=by
 have hlen:n=P.length+(S.length+Q.length):=by rw[hn];simp
 obtain⟨l,hl⟩ : ∃l,l=S.length:=⟨_,rfl⟩
 obtain⟨q,hq⟩ : ∃q,q=l / 4:=⟨_,rfl⟩
 obtain⟨m,hm1,hm2,hm3⟩:=pow2_ev l (by omega) (by omega)
 have w0:IntKind.i64.wrap ((b:Int)-(a:Int))=(l:Int):=qg6 (by omega) (by omega)
 have w1:IntKind.i64.wrap ((l:Int).tdiv 4)=(q:Int):=by
  rw[show (l:Int).tdiv 4=(q:Int) by rw[wF (by omega)];omega];exact qan (by omega) (by omega)
 have w3:IntKind.i64.wrap ((q:Int)*2)=((2*q:Nat):Int):=by rw[qan (by omega) (by omega)];omega
 have w6:IntKind.i64.wrap ((a:Int)+((2*q:Nat):Int))=((a+2*q:Nat):Int):=qke (by omega)
 have w7:IntKind.i64.wrap (((a+2*q:Nat):Int)+1)=((a+2*q+1:Nat):Int):=qal (by omega)
 obtain⟨i0,hi0⟩ : ∃i0,a+2*q=i0+1:=⟨a+2*q-1,by omega⟩
 have w8:IntKind.i64.wrap (((a+2*q:Nat):Int)-1)=(i0:Int):=qbn hi0 (by omega)
 have u1:IntKind.u64.wrap (l:Int)=(l:Int):=qvj (by omega)
 have u2:IntKind.u64.wrap (((m+1:Nat):Int)-1)=(m:Int):=by
  rw[show ((m+1:Nat):Int)-1=(m:Int) by omega];exact qvj (by omega)
 have key:=qcj (f:=exec (evL T) itL none qax) (s:=qca [0,1,6,7,8,9] true 5) (τ:=List Int×Nat×Int)
  (fun s=>⟨[(0,.sl 0 g 0 n cl),(1,(ii a)),(6,(ii l)),(7,.ptr 4 0 0 0),(8,(.v (.int .u64 ((m+1:Nat))))),(9,(ii s.2.1))],[]⟩) (fun s=>[.row 1 ((s.1).map qk) g,.row 1 [[.sl 0 g 0 n false]] 0,.dead,.loop ⟨[(2,.ptr 1 0 0 0)],[]⟩ [7] qb qa .exhausted none,.row 1 [[(.v (.int .u64 (s.2.2)))]] 0]) (fun s=>a+2*q+2-s.2.1)
  (fun s=>(∃S',s.1=P++(S'++Q)∧S'.Perm S)∧a≤s.2.1∧s.2.1≤a+2*q+2)
  (fun y=>y.1 = .exit 0∧y.2.1.marks=[] ∧ ∃(S':List Int) (x:Int),S'.Perm S∧y.2.2=[.row 1 ((P++(S'++Q)).map qk) g,.row 1 [[.sl 0 g 0 n false]] 0,.dead,.loop ⟨[(2,.ptr 1 0 0 0)],[]⟩ [7] qb qa .exhausted none,.row 1 [[(.v (.int .u64 (x)))]] 0]) ?_ (P++(S++Q),i0,(l:Int)) ⟨⟨S,rfl,.refl _⟩,by simp only;omega,by simp only;omega⟩
 ·obtain⟨⟨y,e,σ⟩,k1,k2,k3,S',x,k4,k5⟩:=key
  simp only at k1 k2 k3 k5
  subst k2;subst k5
  refine⟨S',k4,?_⟩
  have c1:(l:Int)≥8:=by omega
  rw[qj qgr qgf]
  simp only[qby,w0,w1,w3,w6,w8,u1,c1,hm1,k1,k3,qe,wg,wC,wm,wt,wk,qn,wf,ne_eq,zgy,↓qf,↓qaq,↓wd,wh,wa,we,wy,wc]
 ·rintro⟨D,i,s⟩ ⟨⟨S',hD,hp⟩,hi,hi2⟩
  simp only at hD hi hi2⊢
  have hl2:=hp.length_eq
  have hDl:D.length=n:=by rw[hD,hlen];simp[hl2]
  by_cases hij:i≤a+2*q+1
  case neg=>
   have c1:¬(i:Int)≤((a+2*q+1:Nat):Int):=by omega
   right
   simp only[qax,w1,w3,w6,w7,c1,wg,zgy,↓qf,↓wd,wa,wy,wc]
   exact⟨_,rfl,rfl,rfl,S',s,hp,by rw[hD]⟩
  have c1:(i:Int)≤((a+2*q+1:Nat):Int):=by omega
  obtain⟨v,hv⟩:=xor_ev g n D s
  obtain⟨k,hk1,hk2⟩:=and_le v m (by omega)
  have u3:IntKind.i64.wrap (k:Int)=(k:Int):=qan (by omega) (by omega)
  have w9:IntKind.i64.wrap ((i:Int)+1)=((i+1:Nat):Int):=qal (by omega)
  have fin : ∀o:Nat,o<l → ∃D1:List Int,(∃z,((D.map qk).set i [(ii ((D[a+o]?).getD 0))])[a+o]? = some [(ii z)])∧(((D.map qk).set i [(ii ((D[a+o]?).getD 0))]).set (a+o) [(ii ((D[i]?).getD 0))])=D1.map qk∧(∃S',D1=P++(S'++Q)∧S'.Perm S)∧D[i]? = some ((D[i]?).getD 0)∧D[a+o]? = some ((D[a+o]?).getD 0):=by
   intro o ho
   obtain⟨x,hx⟩ : ∃x,D[i]? = some x:=⟨_,zgE (by omega)⟩
   obtain⟨y,hy⟩ : ∃y,D[a+o]? = some y:=⟨_,zgE (by omega)⟩
   obtain⟨S2,e1,e2⟩:=qm1 hD ha hi (by omega) (by omega:a≤a+o) (by omega) hx hy
   have gx:(D[i]?).getD 0=x:=by rw[hx];rfl
   have gy:(D[a+o]?).getD 0=y:=by rw[hy];rfl
   rw[gx,gy]
   exact⟨(D.set i y).set (a+o) x,qfl hx hy,by rw[wi,wi];rfl,⟨S2,e1,e2.trans hp⟩,hx,hy⟩
  have r1:i<n:=by omega
  left
  by_cases hkl:k<l
  ·have c2:¬(k:Int)≥(l:Int):=by omega
   obtain⟨D1,⟨z,hz⟩,hr1,hS1,hx,hy⟩:=fin k hkl
   have w10:IntKind.i64.wrap ((a:Int)+(k:Int))=((a+k:Nat):Int):=qke (by omega)
   have r2:a+k<n:=by omega
   refine⟨(D1,i+1,v),?_,⟨hS1,by simp only;omega,by simp only;omega⟩,by simp only;omega⟩
   generalize (D[i]?).getD 0=x at hz hr1 hx hy
   generalize (D[a+k]?).getD 0=y at hz hr1 hx hy
   simp only[qax,zgs,zgr,zgq,zgt,w1,w3,w6,w7,c1,hv,u2,q1b,hk1,u3,c2,w10,r1,r2,hx,hy,hz,hr1,w9,qk,qe,wg,wC,qc,wm,wt,wk,wf,zgy,↓qf,↓wd,wa,we,wy,wc]
  ·have c2:(k:Int)≥(l:Int):=by omega
   obtain⟨o,ho⟩ : ∃o,k=l+o:=⟨k-l,by omega⟩
   have w11:IntKind.i64.wrap ((k:Int)-(l:Int))=(o:Int):=qg6 ho (by omega)
   obtain⟨D1,⟨z,hz⟩,hr1,hS1,hx,hy⟩:=fin o (by omega)
   have w10:IntKind.i64.wrap ((a:Int)+(o:Int))=((a+o:Nat):Int):=qke (by omega)
   have r2:a+o<n:=by omega
   refine⟨(D1,i+1,v),?_,⟨hS1,by simp only;omega,by simp only;omega⟩,by simp only;omega⟩
   generalize (D[i]?).getD 0=x at hz hr1 hx hy
   generalize (D[a+o]?).getD 0=y at hz hr1 hx hy
   simp only[qax,zgs,zgr,zgq,zgt,w1,w3,w6,w7,c1,hv,u2,q1b,hk1,u3,c2,w11,w10,r1,r2,hx,hy,hz,hr1,w9,qk,qe,wg,wC,qc,wm,wt,wk,wf,zgy,↓qf,↓wd,wa,we,wy,wc]
end
open Go.Ev
set_option maxRecDepth 10000
section
variable (g:Nat) (cl:Bool) (n:Nat)
theorem q0s (P S Q:List Int) (a b i0 jj:Nat) (ha:a=P.length) (hbb:b=a+S.length) (hn:n=(P++(S++Q)).length) (hb:n<2^60) (h1:a+1≤i0) (h2:i0≤b) (h3:LeI (S.take (i0-a))) :
  ∃y,itB (exec (evL T) itL none qaa) (qca [0,1,2,7,8] true 4) ⟨[(0,(.sl 0 g 0 n cl)),(1,(ii a)),(2,(ii b)),(7,(ii i0)),(8,(ii jj))],[]⟩ [.row 1 ((P++(S++Q)).map qk) g,.row 1 [[.sl 0 g 0 n false]] 0,.dead,.loop ⟨[(2,.ptr 1 0 0 0)],[]⟩ [7] qb qa .exhausted none]=some y ∧
   ∃i:Nat,y.1 = .exit 2∧y.2.1.marks=[]∧y.2.2=[.row 1 ((P++(S++Q)).map qk) g,.row 1 [[.sl 0 g 0 n false]] 0,.dead,.loop ⟨[(2,.ptr 1 0 0 0)],[]⟩ [7] qb qa .exhausted none]∧qbk y.2.1.vars 0=some (.sl 0 g 0 n cl)∧qbk y.2.1.vars 1=some (ii a)∧qbk y.2.1.vars 2=some (ii b)∧qbk y.2.1.vars 7=some (ii i)∧qbk y.2.1.vars 8=some (ii jj)∧a+1≤i∧i≤b∧LeI (S.take (i-a)):=by
 have hlen:n=P.length+(S.length+Q.length):=by rw[hn];simp
 refine qcj (τ:=Nat) (fun i=>⟨[(0,(.sl 0 g 0 n cl)),(1,(ii a)),(2,(ii b)),(7,(ii i)),(8,(ii jj))],[]⟩) (fun _=>[.row 1 ((P++(S++Q)).map qk) g,.row 1 [[.sl 0 g 0 n false]] 0,.dead,.loop ⟨[(2,.ptr 1 0 0 0)],[]⟩ [7] qb qa .exhausted none]) (fun i=>b-i)
  (fun i=>a+1≤i∧i≤b∧LeI (S.take (i-a))) _ ?_ i0 ⟨h1,h2,h3⟩
 rintro i ⟨h1,h2,h3⟩
 by_cases hib:i<b
 case neg=>
  have c1:¬(i:Int)<(b:Int):=by omega
  right
  simp only[qaa,c1,wg,zgy,↓qf,↓wd,wa,wc]
  exact⟨_,rfl,i,rfl,rfl,rfl,rfl,rfl,rfl,rfl,rfl,h1,h2,h3⟩
 have c1:(i:Int)<(b:Int):=by omega
 obtain⟨m,hm⟩ : ∃m,i=m+1:=⟨i-1,by omega⟩
 obtain⟨D,hD⟩ : ∃D,D=P++(S++Q):=⟨_,rfl⟩
 have hDl:D.length=n:=by rw[hD];exact hn.symm
 obtain⟨x,hx⟩ : ∃x,D[i]? = some x:=⟨_,zgE (by omega)⟩
 obtain⟨y,hy⟩ : ∃y,D[m]? = some y:=⟨_,zgE (by omega)⟩
 have w1:IntKind.i64.wrap ((i:Int)+1)=((i+1:Nat):Int):=qal (by omega)
 have w2:IntKind.i64.wrap ((i:Int)-1)=(m:Int):=qbn hm (by omega)
 have r1:i<n:=by omega
 have r2:m<n:=by omega
 have hc:=qbd x y
 rw[←hD]
 by_cases hlt:x<y<;>simp only[hlt,zgv,zgw]at hc
 ·right
  simp only[qaa,zgs,zgr,zgq,zgt,c1,hx,hy,w2,r1,r2,hc,qk,wg,qc,zgy,↓qf,↓wd,wa,wc]
  exact⟨_,rfl,i,rfl,rfl,rfl,rfl,rfl,rfl,rfl,rfl,h1,h2,h3⟩
 ·left
  refine⟨i+1,?_,⟨by omega,by omega,?_⟩,by omega⟩
  ·simp only[qaa,zgs,zgr,zgq,zgt,c1,hx,hy,w1,w2,r1,r2,hc,qk,qe,wg,qc,wf,zgy,↓qf,↓wd,wa,we,wc]
  ·have gx:S[i-a]? = some x:=by rw[←hx];exact(qks hD (by omega) (by omega)).symm
   have gy:S[m-a]? = some y:=by rw[←hy];exact(qks hD (by omega) (by omega)).symm
   rw[show i+1-a=(i-a)+1 by omega,qv5 gx]
   refine qpd (B:=[]) (by rw[List.append_nil];exact h3) (fun u hu => ?_) (fun v hv=>by simp at hv)
   have hl:(S.take (i-a)).length=i-a:=by simp;omega
   rw[hl,wx (by omega),show i-a-1=m-a by omega,gy]at hu
   cases hu;omega
theorem qzi (P S Q:List Int) (x:Int) (hn:n=(P++(S++x::Q)).length) (hb:n<2^60) (hS:LeI S) (a:Nat) (ha:a=P.length) (b i jj:Nat) (hpre : ∀u,P[P.length-1]? = some u→u≤x) :
  ∃y,itB (exec (evL T) itL none qp) (qca [0,1,2,7,8,9] true 4) ⟨[(0,(.sl 0 g 0 n cl)),(1,(ii a)),(2,(ii b)),(7,(ii i)),(8,(ii jj)),(9,(ii ((a+S.length:Nat))))],[]⟩ [.row 1 ((P++(S++x::Q)).map qk) g,.row 1 [[.sl 0 g 0 n false]] 0,.dead,.loop ⟨[(2,.ptr 1 0 0 0)],[]⟩ [7] qb qa .exhausted none]=some y ∧
   (y.1 = .exit 4∧y.2.1.marks=[]∧qbk y.2.1.vars 0=some (.sl 0 g 0 n cl)∧qbk y.2.1.vars 1=some (ii a)∧qbk y.2.1.vars 2=some (ii b)∧qbk y.2.1.vars 7=some (ii i)∧qbk y.2.1.vars 8=some (ii jj) ∧ ∃S':List Int,S'.Perm (x::S)∧LeI S'∧y.2.2=[.row 1 ((P++(S'++Q)).map qk) g,.row 1 [[.sl 0 g 0 n false]] 0,.dead,.loop ⟨[(2,.ptr 1 0 0 0)],[]⟩ [7] qb qa .exhausted none]):=by
 refine qcj (τ:=List Int×Nat) (fun s=>⟨[(0,(.sl 0 g 0 n cl)),(1,(ii a)),(2,(ii b)),(7,(ii i)),(8,(ii jj)),(9,(ii s.2))],[]⟩) (fun s=>[.row 1 ((s.1).map qk) g,.row 1 [[.sl 0 g 0 n false]] 0,.dead,.loop ⟨[(2,.ptr 1 0 0 0)],[]⟩ [7] qb qa .exhausted none]) (fun s=>s.2)
  (fun s => ∃A B,s.1=P++(A++x::(B++Q))∧s.2=a+A.length∧A++B=S ∧ ∀v,B[0]? = some v→x≤v) _ ?_ (P++(S++x::Q),a+S.length) ⟨S,[],by simp,rfl,by simp,by simp⟩
 rintro⟨D,j⟩ ⟨A,B,hD,hj,hAB,hB⟩
 simp only at hD hj⊢
 have hlen:n=P.length+(S.length+(Q.length+1)):=by rw[hn];simp
 have hSl:S.length=A.length+B.length:=by rw[←hAB];simp
 have fin:(∀u,A[A.length-1]? = some u→u≤x) → ∃S':List Int,S'.Perm (x::S)∧LeI S'∧([.row 1 ((D).map qk) g,.row 1 [[.sl 0 g 0 n false]] 0,.dead,.loop ⟨[(2,.ptr 1 0 0 0)],[]⟩ [7] qb qa .exhausted none]:qh)=[.row 1 ((P++(S'++Q)).map qk) g,.row 1 [[.sl 0 g 0 n false]] 0,.dead,.loop ⟨[(2,.ptr 1 0 0 0)],[]⟩ [7] qb qa .exhausted none]:=fun h=>by
  refine⟨A++x::B,?_,qpd (by rw[hAB];exact hS) h hB,by rw[hD];simp⟩
  rw[←hAB];exact wB
 have hgx:D[j]? = some x:=qvg (L:=P++A) (M:=B++Q) (by rw[hD];simp) (by simp;omega)
 have ge:D.length=n:=by rw[hD,hlen];simp;omega
 have rj:j<n:=by omega
 by_cases hj0:j=0
 ·have h1:¬(j:Int)≥1:=by omega
  have hA0:A=[]:=List.eq_nil_of_length_eq_zero (by omega)
  refine .inr ?_
  simp only[qp,h1,wg,zgy,↓qf,↓wd,wa,wc]
  exact⟨_,rfl,rfl,rfl,rfl,rfl,rfl,rfl,rfl,fin (by rw[hA0];simp)⟩
 obtain⟨k,hjk⟩ : ∃k,j=k+1:=⟨j-1,by omega⟩
 have h1:(j:Int)≥1:=by omega
 have ws:IntKind.i64.wrap ((j:Int)-1)=(k:Int):=qbn hjk (by omega)
 have rk:k<n:=by omega
 rcases List.eq_nil_or_concat A with hA|⟨A0,y,hA⟩
 ·subst hA
  simp only[zgb,Nat.add_zero]at hj
  obtain⟨u,hu⟩ : ∃u,P[P.length-1]? = some u:=⟨_,zgE (by omega)⟩
  have gu:D[k]? = some u:=by
   rw[hD,List.getElem?_append_left (by omega),show k=P.length-1 by omega];exact hu
  have hle:=hpre u hu
  have hc:=qbd x u
  have hlt:¬x<u:=by omega
  simp only[hlt,zgw]at hc
  have hf:=fin (fun u hu=>by simp at hu)
  right
  simp only[qp,zgs,zgr,zgq,zgt,hgx,gu,h1,ws,rj,rk,hc,qk,wg,qc,zgy,↓qf,↓wd,wa,wc]
  exact⟨_,rfl,rfl,rfl,rfl,rfl,rfl,rfl,rfl,hf⟩
 ·subst hA
  simp only[List.concat_eq_append,zgp,zga,zgb]at hD hj hSl hAB fin
  have hk1:k=a+A0.length:=by omega
  have e1:D=(P++A0)++y::x::(B++Q):=by rw[hD];simp
  have l1:k=(P++A0).length:=by simp;omega
  have gy:D[k]? = some y:=qvg e1 l1
  have hc:=qbd x y
  have sw:=qsg e1 l1 hjk
  have hne:¬(j=k):=by omega
  by_cases hlt:x<y
  ·left
   have hlo:=qe 4 ((D.set j y).set k x)
   refine⟨((D.set j y).set k x,k),?_,⟨A0,y::B,by rw[sw];simp,hk1,by rw[←hAB];simp,fun v hv=>by simp at hv;omega⟩,by simp only;omega⟩
   have hs : ∀v,((D.map qk).set j v)[k]? = some (qk y):=fun v=>by rw[wj hne,List.getElem?_map,gy];rfl
   simp only[wi,qk]at hlo hs
   simp only[hlt,zgv]at hc
   simp only[qp,zgs,zgr,zgq,zgt,hgx,gy,hs,h1,ws,rj,rk,hc,hlo,wi,qk,wg,wC,qc,wm,wt,wk,wf,zgy,↓qf,↓wd,wa,we,wc]
  ·right
   simp only[hlt,zgw]at hc
   have hf:=fin (fun u hu=>by simp at hu;omega)
   simp only[qp,zgs,zgr,zgq,zgt,hgx,gy,h1,ws,rj,rk,hc,qk,wg,qc,zgy,↓qf,↓wd,wa,wc]
   exact⟨_,rfl,rfl,rfl,rfl,rfl,rfl,rfl,rfl,hf⟩
theorem qyv (P S Q:List Int) (hn:n=(P++(S++Q)).length) (hb:n<2^60) (a b i jj:Nat) (hi:i=P.length) (hbb:b=i+S.length) (hS:0<S.length) :
  ∃y,itB (exec (evL T) itL none qv) (qca [0,1,2,7,8,10] true 4) ⟨[(0,(.sl 0 g 0 n cl)),(1,(ii a)),(2,(ii b)),(7,(ii i)),(8,(ii jj)),(10,(ii ((i+1:Nat))))],[]⟩ [.row 1 ((P++(S++Q)).map qk) g,.row 1 [[.sl 0 g 0 n false]] 0,.dead,.loop ⟨[(2,.ptr 1 0 0 0)],[]⟩ [7] qb qa .exhausted none]=some y ∧
   (y.1 = .exit 6∧y.2.1.marks=[]∧qbk y.2.1.vars 0=some (.sl 0 g 0 n cl)∧qbk y.2.1.vars 1=some (ii a)∧qbk y.2.1.vars 2=some (ii b)∧qbk y.2.1.vars 7=some (ii i)∧qbk y.2.1.vars 8=some (ii jj) ∧ ∃S':List Int,S'.Perm S∧y.2.2=[.row 1 ((P++(S'++Q)).map qk) g,.row 1 [[.sl 0 g 0 n false]] 0,.dead,.loop ⟨[(2,.ptr 1 0 0 0)],[]⟩ [7] qb qa .exhausted none]):=by
 have hlen:n=P.length+(S.length+Q.length):=by rw[hn];simp
 refine qcj (τ:=List Int×Nat) (fun s=>⟨[(0,(.sl 0 g 0 n cl)),(1,(ii a)),(2,(ii b)),(7,(ii i)),(8,(ii jj)),(10,(ii s.2))],[]⟩) (fun s=>[.row 1 ((s.1).map qk) g,.row 1 [[.sl 0 g 0 n false]] 0,.dead,.loop ⟨[(2,.ptr 1 0 0 0)],[]⟩ [7] qb qa .exhausted none]) (fun s=>b-s.2)
  (fun s=>(∃S',s.1=P++(S'++Q)∧S'.Perm S)∧i+1≤s.2∧s.2≤b) _ ?_ (P++(S++Q),i+1) ⟨⟨S,rfl,.refl _⟩,wv _,by simp only;omega⟩
 rintro⟨D,j⟩ ⟨⟨S',hD,hp⟩,hj1,hj2⟩
 simp only at hD hj1 hj2⊢
 have hl:=hp.length_eq
 have hDl:D.length=n:=by rw[hD,hlen];simp[hl]
 by_cases hjb:j<b
 case neg=>
  have c1:¬(j:Int)<(b:Int):=by omega
  right
  simp only[qv,c1,wg,zgy,↓qf,↓wd,wa,wc]
  exact⟨_,rfl,rfl,rfl,rfl,rfl,rfl,rfl,rfl,S',hp,by rw[hD]⟩
 have c1:(j:Int)<(b:Int):=by omega
 obtain⟨m,hm⟩ : ∃m,j=m+1:=⟨j-1,by omega⟩
 obtain⟨x,hx⟩ : ∃x,D[j]? = some x:=⟨_,zgE (by omega)⟩
 obtain⟨y,hy⟩ : ∃y,D[m]? = some y:=⟨_,zgE (by omega)⟩
 have w1:IntKind.i64.wrap ((j:Int)+1)=((j+1:Nat):Int):=qal (by omega)
 have w2:IntKind.i64.wrap ((j:Int)-1)=(m:Int):=qbn hm (by omega)
 have r1:j<n:=by omega
 have r2:m<n:=by omega
 have hc:=qbd x y
 by_cases hlt:x<y<;>simp only[hlt,zgv,zgw]at hc
 ·obtain⟨S2,e1,e2⟩:=qm1 hD hi (by omega) (by omega) (by omega) (by omega) hx hy
  obtain⟨z,hz⟩:=qfl hx hy
  obtain⟨D1,hD1⟩ : ∃D1,D1=(D.set j y).set m x:=⟨_,rfl⟩
  have hr1:(((D.map qk).set j [(ii y)]).set m [(ii x)])=D1.map qk:=by rw[hD1,wi,wi];rfl
  left
  refine⟨(D1,j+1),?_,⟨⟨S2,by rw[hD1];exact e1,e2.trans hp⟩,by simp only;omega,by simp only;omega⟩,by simp only;omega⟩
  simp only[qv,zgs,zgr,zgq,zgt,c1,hx,hy,hz,hr1,w1,w2,r1,r2,hc,qk,qe,wg,wC,qc,wm,wt,wk,wf,zgy,↓qf,↓wd,wa,we,wc]
 ·right
  simp only[qv,zgs,zgr,zgq,zgt,c1,hx,hy,w2,r1,r2,hc,qk,wg,qc,zgy,↓qf,↓wd,wa,wc]
  exact⟨_,rfl,rfl,rfl,rfl,rfl,rfl,rfl,rfl,S',hp,by rw[hD]⟩
theorem pins_L (P S Q:List Int) (a b:Nat) (ha:a=P.length) (hbb:b=a+S.length) (hS:0<S.length) (hn:n=(P++(S++Q)).length) (hb:n<2^60) (hpre : ∀u,P[P.length-1]? = some u → ∀x∈S,u≤x) :
  ∃y,itB (exec (evL T) itL none ql) (qca [0,1,2,7,8] true 4) ⟨[(0,(.sl 0 g 0 n cl)),(1,(ii a)),(2,(ii b)),(7,(ii ((a+1:Nat)))),(8,(ii ((0:Nat))))],[]⟩ [.row 1 ((P++(S++Q)).map qk) g,.row 1 [[.sl 0 g 0 n false]] 0,.dead,.loop ⟨[(2,.ptr 1 0 0 0)],[]⟩ [7] qb qa .exhausted none]=some y ∧
   ∃(r:Bool) (S':List Int),S'.Perm S∧(r=true→LeI S')∧y.2.1.marks=[]∧y.2.2=[.row 1 ((P++(S'++Q)).map qk) g,.row 1 [[.sl 0 g 0 n false]] 0,.dead,.loop ⟨[(2,.ptr 1 0 0 0)],[]⟩ [7] qb qa .exhausted none]∧(y.1 = .ret∧qbk y.2.1.vars 6=some (bb r)∨y.1 = .exit 0∧r=false):=by
 have hlen:n=P.length+(S.length+Q.length):=by rw[hn];simp
 refine qcj (τ:=List Int×Nat×Nat) (fun s=>⟨[(0,(.sl 0 g 0 n cl)),(1,(ii a)),(2,(ii b)),(7,(ii s.2.1)),(8,(ii s.2.2))],[]⟩) (fun s=>[.row 1 ((P++(s.1++Q)).map qk) g,.row 1 [[.sl 0 g 0 n false]] 0,.dead,.loop ⟨[(2,.ptr 1 0 0 0)],[]⟩ [7] qb qa .exhausted none]) (fun s=>5-s.2.2)
  (fun s=>s.1.Perm S∧LeI (s.1.take (s.2.1-a))∧a+1≤s.2.1∧s.2.1≤b∧s.2.2≤5) _ ?_ (S,a+1,0) ⟨.refl _,?_,wv _,by simp only;omega,by simp⟩
 ·rintro⟨S1,i0,jj⟩ ⟨hp,hs,h1,h2,h3⟩
  simp only at hp hs h1 h2 h3⊢
  have hl:=hp.length_eq
  have hjjw:IntKind.i64.wrap ((jj:Int)+1)=((jj+1:Nat):Int):=qal (by omega)
  by_cases hj5:jj<5
  case neg=>
   have c1:¬(jj:Int)<5:=by omega
   right
   simp only[ql,c1,wg,zgy,↓qf,↓wd,wa,wc]
   exact⟨_,rfl,false,S1,hp,fun h=>(by cases h),rfl,rfl,.inr ⟨rfl,rfl⟩⟩
  have c1:(jj:Int)<5:=by omega
  obtain⟨⟨y,e,σ⟩,k1,i,k2,k3,k4,k5,k6,k7,k8,k9,q1,q2,q3⟩:=q0s g cl n P S1 Q a b i0 jj ha (by omega) (by rw[hlen];simp[hl]) hb h1 h2 hs
  simp only at k1 k2 k3 k4 k5 k6 k7 k8 k9
  subst k2;subst k4
  by_cases hib:i=b
  ·subst hib
   right
   refine⟨_,by simp only[ql,c1,k1,k3,k7,k8,qe,wg,wf,zgy,↓qf,↓qaq,↓wd,wh,wa,we,wc];rfl,true,S1,hp,fun _ => ?_,rfl,rfl,.inl ⟨rfl,by simp only[wg,zgy,↓wd]⟩⟩
   rw[ztl (by omega)]at q3;exact q3
  have c2:¬(i:Int)=(b:Int):=by omega
  have w2:IntKind.i64.wrap ((b:Int)-(a:Int))=(S.length:Int):=qg6 hbb (by omega)
  by_cases h50:S.length<50
  ·have c3:(S.length:Int)<50:=by omega
   right
   exact⟨_,by simp only[ql,c1,k1,k3,k6,k7,k8,c2,w2,c3,qe,wg,wf,zgy,↓qf,↓qaq,↓wd,wh,wa,we,wc];rfl,false,S1,hp,fun h=>(by cases h),rfl,rfl,.inl ⟨rfl,by simp only[wg,zgy,↓wd]⟩⟩
  have c3:¬(S.length:Int)<50:=by omega
  obtain⟨m,hm⟩ : ∃m,i=m+1:=⟨i-1,by omega⟩
  obtain⟨D,hD⟩ : ∃D,D=P++(S1++Q):=⟨_,rfl⟩
  have hDl:D.length=n:=by rw[hD,hlen];simp[hl]
  obtain⟨x,hx⟩ : ∃x,S1[i-a]? = some x:=⟨_,zgE (by omega)⟩
  obtain⟨y,hy⟩ : ∃y,S1[m-a]? = some y:=⟨_,zgE (by omega)⟩
  have gx:D[i]? = some x:=by rw[←hx];exact qks hD (by omega) (by omega)
  have gy:D[m]? = some y:=by rw[←hy];exact qks hD (by omega) (by omega)
  obtain⟨A,hA⟩ : ∃A,A=S1.take (m-a):=⟨_,rfl⟩
  obtain⟨B,hB⟩ : ∃B,B=S1.drop (i-a+1):=⟨_,rfl⟩
  have hAl:A.length=m-a:=by rw[hA,List.length_take];omega
  have hS1:S1=A++y::x::B:=by
   rw[hA,hB]
   obtain⟨x1,x2⟩:=zei.1 hx
   obtain⟨y1,y2⟩:=zei.1 hy
   conv=>lhs;rw[←wo (m-a) S1]
   rw[wr y1,y2]
   have:S1.drop (m-a+1)=x::S1.drop (i-a+1):=by
    rw[show m-a+1=i-a by omega,wr x1,x2]
   rw[this]
  have hAs:LeI A:=by
   have:LeI ((S1.take (i-a)).take (m-a)):=List.Pairwise.sublist (List.take_sublist _ _) q3
   rw[List.take_take,Nat.min_eq_left (by omega)]at this
   rw[hA];exact this
  have e1:D=(P++A)++y::x::(B++Q):=by rw[hD,hS1];simp
  have sw:=qsg (n:=m) (m:=i) e1 (by simp;omega) hm
  obtain⟨z,hz⟩:=qfl gx gy
  have hr1:(((D.map qk).set i [(ii y)]).set m [(ii x)])=(P++(A++x::y::(B++Q))).map qk:=by
   rw[show P++(A++x::y::(B++Q))=(P++A)++x::y::(B++Q) by simp,←sw,wi,wi];rfl
  have w4:IntKind.i64.wrap ((i:Int)-1)=(m:Int):=qbn hm (by omega)
  have w5:IntKind.i64.wrap ((i:Int)-(a:Int))=((A.length+1:Nat):Int):=qg6 (by omega) (by omega)
  have w6:IntKind.i64.wrap ((b:Int)-(i:Int))=((B.length+1:Nat):Int):=by
   have:S1.length=A.length+(B.length+1+1):=by rw[hS1];simp
   exact qg6 (by omega) (by omega)
  have w7:IntKind.i64.wrap ((i:Int)+1)=((i+1:Nat):Int):=qal (by omega)
  have r1:i<n:=by omega
  have r2:m<n:=by omega
  have hSl:S1.length=A.length+(B.length+1+1):=by rw[hS1];simp
  have hxS:x∈S:=hp.mem_iff.1 (zmg hx)
  -- the state that both ways lead to
  have go : ∀A' B':List Int,A'.Perm (x::A)→LeI A'→B'.Perm (y::B)→(A'++B').Perm S∧LeI ((A'++B').take (i-a)):=fun A' B' pa sa pb=>by
   have la:=pa.length_eq
   rw[List.length_cons]at la
   refine⟨?_,by rw[List.take_append_of_le_length (by omega),ztl (by omega)];exact sa⟩
   refine wD ?_ hp
   rw[hS1]
   refine(pa.append pb).trans ?_
   refine wD (?_:(x::A++y::B).Perm (A++x::y::B)) (wq A (List.Perm.swap y x B))
   exact(wB (a:=x) (l₁:=A) (l₂:=y::B)).symm
  have left : ∃(A':List Int),A'.Perm (x::A)∧LeI A'∧(A=[]∧A'=[x]∨0<A.length ∧ ∃e':Env,itB (exec (evL T) itL none qp) (qca [0,1,2,7,8,9] true 4) ⟨[(0,(.sl 0 g 0 n cl)),(1,(ii a)),(2,(ii b)),(7,(ii i)),(8,(ii jj)),(9,(ii m))],[]⟩ [.row 1 ((P++(A++x::y::(B++Q))).map qk) g,.row 1 [[.sl 0 g 0 n false]] 0,.dead,.loop ⟨[(2,.ptr 1 0 0 0)],[]⟩ [7] qb qa .exhausted none]=some (.exit 4,e',[.row 1 ((P++(A'++y::(B++Q))).map qk) g,.row 1 [[.sl 0 g 0 n false]] 0,.dead,.loop ⟨[(2,.ptr 1 0 0 0)],[]⟩ [7] qb qa .exhausted none])∧e'.marks=[]∧qbk e'.vars 0=some (.sl 0 g 0 n cl)∧qbk e'.vars 1=some (ii a)∧qbk e'.vars 2=some (ii b)∧qbk e'.vars 7=some (ii i)∧qbk e'.vars 8=some (ii jj)):=by
   by_cases hA0:A=[]
   ·exact⟨[x],by rw[hA0],wz _ _,.inl ⟨hA0,rfl⟩⟩
   ·obtain⟨⟨y',e',σ'⟩,l1,l2,l3,l4,l5,l6,l7,l8,A',l9,l10,l11⟩:=qzi g cl n P A (y::(B++Q)) x (by rw[hlen,←hl,hSl];simp;omega) hb hAs a ha b i jj (fun u hu=>hpre u hu x hxS)
    simp only at l2 l3 l4 l5 l6 l7 l8 l11
    subst l2;subst l11
    rw[show a+A.length=m by omega]at l1
    exact⟨A',l9,l10,.inr ⟨List.length_pos_iff.2 hA0,e',l1,l3,l4,l5,l6,l7,l8⟩⟩
  obtain⟨A',a1,a2,hleft⟩:=left
  have hAl':A'.length=A.length+1:=by rw[a1.length_eq];simp
  have right : ∃(B':List Int),B'.Perm (y::B)∧(B=[]∧B'=[y]∨0<B.length ∧ ∃e':Env,itB (exec (evL T) itL none qv) (qca [0,1,2,7,8,10] true 4) ⟨[(0,(.sl 0 g 0 n cl)),(1,(ii a)),(2,(ii b)),(7,(ii i)),(8,(ii jj)),(10,(ii ((i+1:Nat))))],[]⟩ [.row 1 ((P++(A'++y::(B++Q))).map qk) g,.row 1 [[.sl 0 g 0 n false]] 0,.dead,.loop ⟨[(2,.ptr 1 0 0 0)],[]⟩ [7] qb qa .exhausted none]=some (.exit 6,e',[.row 1 ((P++((A'++B')++Q)).map qk) g,.row 1 [[.sl 0 g 0 n false]] 0,.dead,.loop ⟨[(2,.ptr 1 0 0 0)],[]⟩ [7] qb qa .exhausted none])∧e'.marks=[]∧qbk e'.vars 0=some (.sl 0 g 0 n cl)∧qbk e'.vars 1=some (ii a)∧qbk e'.vars 2=some (ii b)∧qbk e'.vars 7=some (ii i)∧qbk e'.vars 8=some (ii jj)):=by
   by_cases hB0:B=[]
   ·exact⟨[y],by rw[hB0],.inl ⟨hB0,rfl⟩⟩
   ·obtain⟨⟨y',e',σ'⟩,l1,l2,l3,l4,l5,l6,l7,l8,B',l9,l11⟩:=qyv g cl n (P++A') (y::B) Q (by rw[hlen,←hl,hSl];simp;omega) hb a b i jj (by simp;omega) (by simp;omega) (by simp)
    simp only at l2 l3 l4 l5 l6 l7 l8 l11
    subst l2;subst l11
    simp only[wl,zgm]at l1⊢
    exact⟨B',l9,.inr ⟨List.length_pos_iff.2 hB0,e',l1,l3,l4,l5,l6,l7,l8⟩⟩
  obtain⟨B',b1,hright⟩:=right
  obtain⟨g1,g2⟩:=go A' B' a1 a2 b1
  left
  refine⟨(A'++B',i,jj+1),?_,⟨g1,g2,q1,q2,by simp only;omega⟩,by simp only;omega⟩
  rw[←hD]at k1⊢
  rcases hleft with ⟨hA0,hA1⟩|⟨hA0,eL,l1,l2,l3,l4,l5,l6,l7⟩
  ·have c4:¬((A.length+1:Nat):Int)≥2:=by rw[hA0];simp
   rw[hA0,List.nil_append,show P++(x::y::(B++Q))=P++(A'++y::(B++Q)) by rw[hA1];rfl]at hr1
   rcases hright with ⟨hB0,hB1⟩|⟨hB0,eR,m1,m2,m3,m4,m5,m6,m7⟩
   ·have c5:¬((B.length+1:Nat):Int)≥2:=by rw[hB0];simp
    rw[show P++(A'++y::(B++Q))=P++((A'++B')++Q) by rw[hB0,hB1];simp]at hr1
    simp only[ql,zgs,zgr,zgq,zgt,c1,k1,k3,k5,k6,k7,k8,k9,c2,w2,c3,gx,gy,hz,hr1,w4,w5,w6,c4,c5,r1,r2,hjjw,qk,qe,wg,wC,qc,wm,wt,wk,wf,zgy,↓qf,↓qaq,↓wd,wh,wa,we,wc]
   ·have c5:((B.length+1:Nat):Int)≥2:=by omega
    simp only[ql,zgs,zgr,zgq,zgt,c1,k1,k3,k5,k6,k7,k8,k9,c2,w2,c3,gx,gy,hz,hr1,w4,w5,w6,w7,c4,c5,m1,m2,m3,m4,m5,m6,m7,r1,r2,hjjw,qk,qe,wg,wC,qc,wm,wt,wk,wf,zgy,↓qf,↓qaq,↓wd,wh,wa,we,wc]
  ·have c4:((A.length+1:Nat):Int)≥2:=by omega
   rcases hright with ⟨hB0,hB1⟩|⟨hB0,eR,m1,m2,m3,m4,m5,m6,m7⟩
   ·have c5:¬((B.length+1:Nat):Int)≥2:=by rw[hB0];simp
    rw[show P++(A'++y::(B++Q))=P++((A'++B')++Q) by rw[hB0,hB1];simp]at l1
    simp only[ql,zgs,zgr,zgq,zgt,c1,k1,k3,k5,k6,k7,k8,k9,c2,w2,c3,gx,gy,hz,hr1,w4,w5,w6,c4,c5,l1,l2,l3,l4,l5,l6,l7,r1,r2,hjjw,qk,qe,wg,wC,qc,wm,wt,wk,wf,zgy,↓qf,↓qaq,↓wd,wh,wa,we,wc]
   ·have c5:((B.length+1:Nat):Int)≥2:=by omega
    simp only[ql,zgs,zgr,zgq,zgt,c1,k1,k3,k5,k6,k7,k8,k9,c2,w2,c3,gx,gy,hz,hr1,w4,w5,w6,w7,c4,c5,l1,l2,l3,l4,l5,l6,l7,m1,m2,m3,m4,m5,m6,m7,r1,r2,hjjw,qk,qe,wg,wC,qc,wm,wt,wk,wf,zgy,↓qf,↓qaq,↓wd,wh,wa,we,wc]
 ·simp only
  rw[show a+1-a=1 by omega]
  cases S with
  |nil=>simp at hS
  |cons x S=>simp[LeI]
theorem qzr (P S Q:List Int) (a b:Nat) (ha:a=P.length) (hbb:b=a+S.length) (hS:0<S.length) (hn:n=(P++(S++Q)).length) (hb:n<2^60) (hpre : ∀u,P[P.length-1]? = some u → ∀x∈S,u≤x) :
  ∃(r:Bool) (S':List Int),S'.Perm S∧(r=true→LeI S')∧(evL T).call qt [.sl 0 g 0 n cl,(ii a),(ii b)] [.row 1 ((P++(S++Q)).map qk) g,.row 1 [[.sl 0 g 0 n false]] 0,.dead,.loop ⟨[(2,.ptr 1 0 0 0)],[]⟩ [7] qb qa .exhausted none]=some ((bb r),[.row 1 ((P++(S'++Q)).map qk) g,.row 1 [[.sl 0 g 0 n false]] 0,.dead,.loop ⟨[(2,.ptr 1 0 0 0)],[]⟩ [7] qb qa .exhausted none]):=by
 have hlen:n=P.length+(S.length+Q.length):=by rw[hn];simp
 obtain⟨⟨y,e,σ⟩,k1,r,S',k2,k3,k4,k5,k6⟩:=pins_L g cl n P S Q a b ha hbb hS hn hb hpre
 simp only at k1 k4 k5 k6
 subst k5
 have w1:IntKind.i64.wrap ((a:Int)+1)=((a+1:Nat):Int):=qal (by omega)
 have h0:((0:Nat):Int)=0:=rfl
 rw[h0]at k1
 refine⟨r,S',k2,k3,?_⟩
 rw[qj qff qe8]
 rcases k6 with ⟨rfl,k7⟩|⟨rfl,rfl⟩
 ·simp only[qaj,w1,k1,k4,k7,qe,wg,qn,wf,zgy,↓qf,↓qaq,↓wd,wh,wa,we,wc]
 ·simp only[qaj,w1,k1,k4,qe,wg,qn,wf,zgy,↓qf,↓qaq,↓wd,wh,wa,we,wc]
end
open Go.Ev
set_option maxRecDepth 10000
def at0 (H:List Int) (k:Nat):Int:=(H[k]?).getD 0
theorem qi9 {H:List Int} {k:Nat} (h:k<H.length):H[k]? = some (at0 H k):=by
 unfold at0;rw[zgE h];rfl
theorem quh {H:List Int} {i j:Nat} (hi:i<H.length) (hj:j<H.length) (k:Nat):at0 ((H.set i (at0 H j)).set j (at0 H i)) k=if k=j then at0 H i else if k=i then at0 H j else at0 H k:=by
 unfold at0
 by_cases e1:k=j
 ·subst e1;rw[if_pos rfl,wn (by simpa using hj)];rfl
 ·rw[if_neg e1,wj (Ne.symm e1)]
  by_cases e2:k=i
  ·subst e2;rw[if_pos rfl,wn hi];rfl
  ·rw[if_neg e2,wj (Ne.symm e2)]
def qze (H:List Int) (lo hi:Nat):Prop:=∀i c,lo≤i→(c=2*i+1∨c=2*i+2)→c<hi→at0 H c≤at0 H i
theorem qze.max {H:List Int} {m:Nat} (h:qze H 0 m) : ∀i,i<m→at0 H i≤at0 H 0:=by
 intro i
 induction i using Nat.strongRecOn with
 | _ i ih=>
  intro hi
  cases i with
  |zero=>exact Int.le_refl _
  |succ j=>
   have h1:=h (j / 2) (j+1) (Nat.zero_le _) (by omega) hi
   have h2:=ih (j / 2) (by omega) (by omega)
   omega
structure Sink (H:List Int) (lo hi root:Nat):Prop where
 low:lo≤root
 rest : ∀i c,lo≤i→i≠root→(c=2*i+1∨c=2*i+2)→c<hi→at0 H c≤at0 H i
 up : ∀i c,lo≤i→(root=2*i+1∨root=2*i+2)→(c=2*root+1∨c=2*root+2)→c<hi→at0 H c≤at0 H i
theorem Sink.down {H:List Int} {lo hi root ch:Nat} (h:Sink H lo hi root) (hl:hi≤H.length) (hc:ch=2*root+1∨ch=2*root+2) (hch:ch<hi) (hmax : ∀c,(c=2*root+1∨c=2*root+2)→c<hi→at0 H c≤at0 H ch) (hlt:at0 H root<at0 H ch) :
  Sink ((H.set root (at0 H ch)).set ch (at0 H root)) lo hi ch:=by
 have hs:=quh (H:=H) (i:=root) (j:=ch) (by omega) (by omega)
 refine⟨by have:=h.low;omega,fun i c h1 h2 h3 h4 => ?_,fun i c h1 h2 h3 h4 => ?_⟩
 ·rw[hs,hs]
  by_cases e1:c=ch
  ·have:i=root:=by omega
   subst this
   rw[if_pos e1,if_neg (by omega),if_pos rfl];omega
  rw[if_neg e1]
  by_cases e2:c=root
  ·rw[if_pos e2,if_neg h2]
   by_cases e3:i=root
   ·omega
   ·rw[if_neg e3];exact h.up i ch h1 (by omega) hc hch
  rw[if_neg e2,if_neg h2]
  by_cases e3:i=root
  ·rw[if_pos e3];exact hmax c (by omega) h4
  ·rw[if_neg e3];exact h.rest i c h1 e3 h3 h4
 ·have hir:i=root:=by omega
  subst hir
  rw[hs,hs,if_neg (by omega),if_neg (by omega),if_neg (by omega),if_pos rfl]
  exact h.rest ch c (by have:=h.low;omega) (by omega) h3 h4
theorem Sink.done {H:List Int} {lo hi root:Nat} (h:Sink H lo hi root) (hr : ∀c,(c=2*root+1∨c=2*root+2)→c<hi→at0 H c≤at0 H root):qze H lo hi:=fun i c h1 h2 h3=>by
 by_cases e:i=root
 ·subst e;exact hr c h2 h3
 ·exact h.rest i c h1 e h2 h3
section
variable (g:Nat) (cl:Bool) (n:Nat)
theorem q0g (P H Q:List Int) (lo hi f:Nat) (hf:f=P.length) (hhi:hi≤H.length) (hn:n=(P++(H++Q)).length) (hb:n<2^60) (hlo:lo≤n) (hH:qze H (lo+1) hi) :
  ∃H':List Int,H'.Perm H∧(∀k,hi≤k→H'[k]? = H[k]?)∧qze H' lo hi∧(evL T).call qah [.sl 0 g 0 n cl,(ii lo),(ii hi),(ii f)] [.row 1 ((P++(H++Q)).map qk) g,.row 1 [[.sl 0 g 0 n false]] 0,.dead,.loop ⟨[(2,.ptr 1 0 0 0)],[]⟩ [7] qb qa .exhausted none]=some (.tup [],[.row 1 ((P++(H'++Q)).map qk) g,.row 1 [[.sl 0 g 0 n false]] 0,.dead,.loop ⟨[(2,.ptr 1 0 0 0)],[]⟩ [7] qb qa .exhausted none]):=by
 have hlen:n=P.length+(H.length+Q.length):=by rw[hn];simp
 have key:=qcj (f:=exec (evL T) itL none qx) (s:=qca [0,2,3,8] true 4) (τ:=List Int×Nat)
  (fun s=>⟨[(0,.sl 0 g 0 n cl),(2,(ii hi)),(3,(ii f)),(8,(ii s.2))],[]⟩) (fun s=>[.row 1 ((P++(s.1++Q)).map qk) g,.row 1 [[.sl 0 g 0 n false]] 0,.dead,.loop ⟨[(2,.ptr 1 0 0 0)],[]⟩ [7] qb qa .exhausted none]) (fun s=>n+hi+1-s.2)
  (fun s=>s.1.Perm H∧(∀k,hi≤k→s.1[k]? = H[k]?)∧Sink s.1 lo hi s.2∧s.2≤n)
  (fun y=>(y.1 = .exit 0∨y.1 = .ret)∧y.2.1.marks=[] ∧ ∃H':List Int,H'.Perm H∧(∀k,hi≤k→H'[k]? = H[k]?)∧qze H' lo hi∧y.2.2=[.row 1 ((P++(H'++Q)).map qk) g,.row 1 [[.sl 0 g 0 n false]] 0,.dead,.loop ⟨[(2,.ptr 1 0 0 0)],[]⟩ [7] qb qa .exhausted none]) ?_ (H,lo)
  ⟨.refl _,fun _ _=>rfl,⟨wv _,fun i c h1 h2 h3 h4=>hH i c (by omega) h3 h4,fun i c h1 h2 h3 h4=>by omega⟩,hlo⟩
 ·obtain⟨⟨y,e,σ⟩,k1,k2,k3,H',k4,k5,k6,k7⟩:=key
  simp only at k1 k2 k3 k7
  subst k7
  refine⟨H',k4,k5,k6,?_⟩
  rw[qj qh4 qht]
  rcases k2 with rfl|rfl
  ·simp only[qbx,k1,k3,qe,wg,qn,wf,zgy,↓qf,↓qaq,↓wd,wh,wa,we,wc]
  ·simp only[qbx,k1,k3,qe,wg,qn,wf,zgy,↓qf,↓qaq,↓wd,wh,wa,we,wc]
 ·rintro⟨A,root⟩ ⟨hp,hsuf,hs,hrn⟩
  simp only at hp hsuf hs hrn⊢
  have hl:=hp.length_eq
  obtain⟨D,hD⟩ : ∃D,D=P++(A++Q):=⟨_,rfl⟩
  have hDk : ∀k,k<A.length→D[f+k]? = some (at0 A k):=fun k hk=>by
   rw[←qi9 hk];exact qks hD hk (by omega)
  obtain⟨ch,hch⟩ : ∃ch,ch=2*root+1:=⟨_,rfl⟩
  have w1:IntKind.i64.wrap (2*(root:Int))=((2*root:Nat):Int):=by rw[qan (by omega) (by omega)];omega
  have w2:IntKind.i64.wrap (((2*root:Nat):Int)+1)=(ch:Int):=by rw[hch];exact qal (by omega)
  rw[←hD]
  by_cases hge:ch<hi
  case neg=>
   have c1:(ch:Int)≥(hi:Int):=by omega
   right
   simp only[qx,w1,w2,c1,wg,zgy,↓qf,↓wd,wa,wc]
   exact⟨_,rfl,.inl rfl,rfl,A,hp,hsuf,hs.done (fun c h1 h2=>by omega),by rw[hD]⟩
  have c1:¬(ch:Int)≥(hi:Int):=by omega
  have hroot:root<A.length:=by omega
  -- the greater child
  obtain⟨cm,hcm,hcmlt,hmax,hstep⟩ : ∃cm,(cm=2*root+1∨cm=2*root+2)∧cm<hi∧(∀c,(c=2*root+1∨c=2*root+2)→c<hi→at0 A c≤at0 A cm) ∧
    ((cm=ch+1∧ch+1<hi∧at0 A ch<at0 A (ch+1))∨(cm=ch∧(¬ch+1<hi∨ch+1<hi∧¬at0 A ch<at0 A (ch+1)))):=by
   by_cases h1:ch+1<hi
   ·by_cases h2:at0 A ch<at0 A (ch+1)
    ·refine⟨ch+1,by omega,h1,fun c h3 h4 => ?_,.inl ⟨rfl,h1,h2⟩⟩
     have:c=ch∨c=ch+1:=by omega
     rcases this with rfl|rfl<;>omega
    ·refine⟨ch,by omega,hge,fun c h3 h4 => ?_,.inr ⟨rfl,.inr ⟨h1,h2⟩⟩⟩
     have:c=ch∨c=ch+1:=by omega
     rcases this with rfl|rfl<;>omega
   ·refine⟨ch,by omega,hge,fun c h3 h4 => ?_,.inr ⟨rfl,.inl h1⟩⟩
    have:c=ch:=by omega
    subst this;exact Int.le_refl _
  have w3:IntKind.i64.wrap ((ch:Int)+1)=((ch+1:Nat):Int):=qal (by omega)
  have w4:IntKind.i64.wrap ((f:Int)+(ch:Int))=((f+ch:Nat):Int):=qke (by omega)
  have w5:IntKind.i64.wrap (((f+ch:Nat):Int)+1)=((f+(ch+1):Nat):Int):=qal (by omega)
  have w6:IntKind.i64.wrap ((f:Int)+(root:Int))=((f+root:Nat):Int):=qke (by omega)
  have w7:IntKind.i64.wrap ((f:Int)+(cm:Int))=((f+cm:Nat):Int):=qke (by omega)
  have r1:f+ch<n:=by omega
  have r3:f+root<n:=by omega
  have r4:f+cm<n:=by omega
  have g1:=hDk ch (by omega)
  have g3:=hDk root hroot
  have g4:=hDk cm (by omega)
  have hc2:=qbd (at0 A root) (at0 A cm)
  by_cases hlt:at0 A root<at0 A cm
  case neg=>
   simp only[hlt,zgw]at hc2
   have hdone:=hs.done (fun c h1 h2=>by have:=hmax c h1 h2;omega)
   right
   rcases hstep with ⟨e1,h1,h2⟩|⟨e1,h1|⟨h1,h2⟩⟩
   ·subst e1
    have c2:((ch+1:Nat):Int)<(hi:Int):=by omega
    have hc1:=qbd (at0 A ch) (at0 A (ch+1))
    simp only[h2,zgv]at hc1
    simp only[qx,zgs,zgr,zgq,zgt,w1,w2,w3,w4,w5,w6,w7,c1,c2,g1,g3,g4,r1,r3,r4,hc1,hc2,qk,wg,qc,zgy,↓qf,↓wd,wa,wc]
    exact⟨_,rfl,.inr rfl,rfl,A,hp,hsuf,hdone,by rw[hD]⟩
   ·subst e1
    have c2:¬((cm+1:Nat):Int)<(hi:Int):=by omega
    simp only[qx,zgs,zgr,zgq,zgt,w1,w2,w3,w4,w6,c1,c2,g3,g4,r3,r4,hc2,qk,wg,qc,zgy,↓qf,↓wd,wa,wc]
    exact⟨_,rfl,.inr rfl,rfl,A,hp,hsuf,hdone,by rw[hD]⟩
   ·subst e1
    have c2:((cm+1:Nat):Int)<(hi:Int):=by omega
    have hc1:=qbd (at0 A cm) (at0 A (cm+1))
    simp only[h2,zgw]at hc1
    have g2:=hDk (cm+1) (by omega)
    have r2:f+(cm+1)<n:=by omega
    simp only[qx,zgs,zgr,zgq,zgt,w1,w2,w3,w4,w5,w6,c1,c2,g2,g3,g4,r2,r3,r4,hc1,hc2,qk,wg,qc,zgy,↓qf,↓wd,wa,wc]
    exact⟨_,rfl,.inr rfl,rfl,A,hp,hsuf,hdone,by rw[hD]⟩
  simp only[hlt,zgv]at hc2
  have hdn:=hs.down (by omega) hcm hcmlt hmax hlt
  obtain⟨A1,hA1⟩ : ∃A1,A1=(A.set root (at0 A cm)).set cm (at0 A root):=⟨_,rfl⟩
  rw[←hA1]at hdn
  have hp1:A1.Perm A:=by rw[hA1];exact qoe (qi9 hroot) (qi9 (by omega))
  obtain⟨z,hz⟩:=qfl g3 g4
  have hr1:(((D.map qk).set (f+root) [(ii (at0 A cm))]).set (f+cm) [(ii (at0 A root))])=(P++(A1++Q)).map qk:=by
   have:(D.set (f+root) (at0 A cm)).set (f+cm) (at0 A root)=P++(A1++Q):=by
    rw[hD,hf,qt8 hroot,qt8 (by simp;omega),hA1]
   rw[←this,wi,wi];rfl
  have suf1 : ∀k,hi≤k→A1[k]? = H[k]?:=fun k hk=>by
   rw[hA1,wj (by omega),wj (by omega)];exact hsuf k hk
  left
  refine⟨(A1,cm),?_,⟨hp1.trans hp,suf1,hdn,by simp only;omega⟩,by simp only;omega⟩
  rcases hstep with ⟨e1,h1,h2⟩|⟨e1,h1|⟨h1,h2⟩⟩
  ·subst e1
   have c2:((ch+1:Nat):Int)<(hi:Int):=by omega
   have hc1:=qbd (at0 A ch) (at0 A (ch+1))
   simp only[h2,zgv]at hc1
   simp only[qx,zgs,zgr,zgq,zgt,w1,w2,w3,w4,w5,w6,w7,c1,c2,g1,g3,g4,r1,r3,r4,hc1,hc2,hz,hr1,qk,qe,wg,wC,qc,wm,wt,wk,wf,zgy,↓qf,↓wd,wa,we,wc]
  ·subst e1
   have c2:¬((cm+1:Nat):Int)<(hi:Int):=by omega
   simp only[qx,zgs,zgr,zgq,zgt,w1,w2,w3,w4,w6,c1,c2,g3,g4,r3,r4,hc2,hz,hr1,qk,qe,wg,wC,qc,wm,wt,wk,wf,zgy,↓qf,↓wd,wa,we,wc]
  ·subst e1
   have c2:((cm+1:Nat):Int)<(hi:Int):=by omega
   have hc1:=qbd (at0 A cm) (at0 A (cm+1))
   simp only[h2,zgw]at hc1
   have g2:=hDk (cm+1) (by omega)
   have r2:f+(cm+1)<n:=by omega
   simp only[qx,zgs,zgr,zgq,zgt,w1,w2,w3,w4,w5,w6,c1,c2,g2,g3,g4,r2,r3,r4,hc1,hc2,hz,hr1,qk,qe,wg,wC,qc,wm,wt,wk,wf,zgy,↓qf,↓wd,wa,we,wc]
end
open Go.Ev
set_option maxRecDepth 10000
theorem tdiv2 {c q:Nat} (h:q=c / 2) (hc:c<2^61):IntKind.i64.wrap ((c:Int).tdiv 2)=(q:Int):=by
 rw[show (c:Int).tdiv 2=(q:Int) by rw[wF (by omega)];omega]
 exact qan (by omega) (by omega)
structure Popped (S H:List Int) (m:Nat):Prop where
 perm:H.Perm S
 le:m≤H.length
 heap:qze H 0 m
 tail:LeI (H.drop m)
 cut : ∀x∈H.take m,∀y∈H.drop m,x≤y
theorem Popped.pop {S H:List Int} {k:Nat} (h:Popped S H (k+1)) {H2:List Int} (hp:H2.Perm ((H.set 0 (at0 H k)).set k (at0 H 0))) (hs : ∀j,k≤j→H2[j]? = ((H.set 0 (at0 H k)).set k (at0 H 0))[j]?) (hh:qze H2 0 k):Popped S H2 k:=by
 have hle:=h.le
 have h0:0<H.length:=by omega
 have hl2:H2.length=H.length:=by have:=hp.length_eq;simpa using this
 have hdrop:H2.drop k=at0 H 0::H.drop (k+1):=by
  apply List.ext_getElem?
  intro j
  rw[wI,hs (k+j) (by omega)]
  cases j with
  |zero=>rw[Nat.add_zero,wn (by simp;omega)];rfl
  |succ j=>
   rw[wj (by omega),wj (by omega),List.getElem?_cons_succ,wI]
   congr 1;omega
 have hperm:H2.Perm S:=(hp.trans (qoe (qi9 h0) (qi9 (by omega)))).trans h.perm
 have m0:at0 H 0∈H.take (k+1):=by
  have:(H.take (k+1))[0]? = some (at0 H 0):=by rw[wx (by omega)];exact qi9 h0
  exact zmg this
 have htake:(H2.take k++[at0 H 0]).Perm (H.take (k+1)):=by
  have e1:H2.Perm H:=hp.trans (qoe (qi9 h0) (qi9 (by omega)))
  have e2:(H2.take k++[at0 H 0]++H.drop (k+1)).Perm (H.take (k+1)++H.drop (k+1)):=by
   rw[wo,wl,List.singleton_append,←hdrop,wo];exact e1
  exact(List.perm_append_right_iff _).1 e2
 have hmax : ∀x∈H.take (k+1),x≤at0 H 0:=fun x hx=>by
  obtain⟨j,hj⟩:=wu.1 hx
  have hjl:=(zei.1 hj).1
  simp only[List.length_take]at hjl
  rw[wx (by omega),qi9 (by omega)]at hj
  rw[←Option.some.inj hj]
  exact h.heap.max j (by omega)
 refine⟨hperm,by omega,hh,?_,fun x hx y hy => ?_⟩
 ·rw[hdrop]
  exact List.pairwise_cons.2 ⟨fun y hy=>h.cut _ m0 y hy,h.tail⟩
 ·have hx':x∈H.take (k+1):=htake.mem_iff.1 (wG _ hx)
  rw[hdrop]at hy
  rcases List.mem_cons.1 hy with rfl|hy
  ·exact hmax x hx'
  ·exact h.cut x hx' y hy
section
variable (g:Nat) (cl:Bool) (n:Nat)
theorem heap_l1 (P S Q:List Int) (f:Nat) (hf:f=P.length) (hn:n=(P++(S++Q)).length) (hb:n<2^60) (m:Nat) (hm:m≤S.length) (hH:qze S m S.length) :
  ∃y,itB (exec (evL T) itL none qb9) (qca [0,6,7,8,9] true 4) ⟨[(0,.sl 0 g 0 n cl),(6,(ii f)),(7,(ii 0)),(8,(ii S.length)),(9,(ii ((m:Int)-1)))],[]⟩ [.row 1 ((P++(S++Q)).map qk) g,.row 1 [[.sl 0 g 0 n false]] 0,.dead,.loop ⟨[(2,.ptr 1 0 0 0)],[]⟩ [7] qb qa .exhausted none]=some y ∧
   ∃H:List Int,y.1 = .exit 0∧y.2.1.marks=[]∧y.2.2=[.row 1 ((P++(H++Q)).map qk) g,.row 1 [[.sl 0 g 0 n false]] 0,.dead,.loop ⟨[(2,.ptr 1 0 0 0)],[]⟩ [7] qb qa .exhausted none]∧qbk y.2.1.vars 0=some (.sl 0 g 0 n cl)∧qbk y.2.1.vars 6=some (ii f)∧qbk y.2.1.vars 7=some (ii 0)∧qbk y.2.1.vars 8=some (ii S.length)∧H.Perm S∧qze H 0 S.length:=by
 have hlen:n=P.length+(S.length+Q.length):=by rw[hn];simp
 refine qcj (τ:=List Int×Nat) (fun s=>⟨[(0,.sl 0 g 0 n cl),(6,(ii f)),(7,(ii 0)),(8,(ii S.length)),(9,(ii ((s.2:Int)-1)))],[]⟩) (fun s=>[.row 1 ((P++(s.1++Q)).map qk) g,.row 1 [[.sl 0 g 0 n false]] 0,.dead,.loop ⟨[(2,.ptr 1 0 0 0)],[]⟩ [7] qb qa .exhausted none]) (fun s=>s.2)
  (fun s=>s.1.Perm S∧qze s.1 s.2 S.length∧s.2≤S.length) _ ?_ (S,m) ⟨.refl _,hH,hm⟩
 rintro⟨H,m⟩ ⟨hp,hH,hm⟩
 simp only at hp hH hm⊢
 have hl:=hp.length_eq
 cases m with
 |zero=>
  have c1:¬((0:Nat):Int)-1≥0:=by omega
  right
  simp only[qb9,wg,zgy,↓qf,↓wd,wa,Int.reduceSub,Int.reduceNeg,wc]
  exact⟨_,rfl,H,rfl,rfl,rfl,rfl,rfl,rfl,rfl,hp,hH⟩
 |succ k=>
  have e1:((k+1:Nat):Int)-1=(k:Int):=by omega
  have c1:(k:Int)≥0:=by omega
  have w1:IntKind.i64.wrap ((k:Int)-1)=(k:Int)-1:=qan (by omega) (by omega)
  obtain⟨H2,q1,q2,q3,q4⟩:=q0g g cl n P H Q k S.length f hf (by omega) (by rw[hlen];simp[hl]) hb (by omega) hH
  left
  refine⟨(H2,k),?_,⟨q1.trans hp,q3,by simp only;omega⟩,by simp only;omega⟩
  rw[e1]
  simp only[qb9,c1,w1,q4,qe,wg,wf,zgy,↓qf,↓wd,wa,we,wc]
theorem heap_l2 (P S H0 Q:List Int) (f:Nat) (hf:f=P.length) (hn:n=(P++(S++Q)).length) (hb:n<2^60) (hP:Popped S H0 S.length) :
  ∃y,itB (exec (evL T) itL none qb8) (qca [0,6,7,10] true 4) ⟨[(0,.sl 0 g 0 n cl),(6,(ii f)),(7,(ii 0)),(10,(ii ((S.length:Int)-1)))],[]⟩ [.row 1 ((P++(H0++Q)).map qk) g,.row 1 [[.sl 0 g 0 n false]] 0,.dead,.loop ⟨[(2,.ptr 1 0 0 0)],[]⟩ [7] qb qa .exhausted none]=some y ∧
   ∃H:List Int,y.1 = .exit 2∧y.2.1.marks=[]∧y.2.2=[.row 1 ((P++(H++Q)).map qk) g,.row 1 [[.sl 0 g 0 n false]] 0,.dead,.loop ⟨[(2,.ptr 1 0 0 0)],[]⟩ [7] qb qa .exhausted none]∧Popped S H 0:=by
 have hlen:n=P.length+(S.length+Q.length):=by rw[hn];simp
 refine qcj (τ:=List Int×Nat) (fun s=>⟨[(0,.sl 0 g 0 n cl),(6,(ii f)),(7,(ii 0)),(10,(ii ((s.2:Int)-1)))],[]⟩) (fun s=>[.row 1 ((P++(s.1++Q)).map qk) g,.row 1 [[.sl 0 g 0 n false]] 0,.dead,.loop ⟨[(2,.ptr 1 0 0 0)],[]⟩ [7] qb qa .exhausted none]) (fun s=>s.2)
  (fun s=>Popped S s.1 s.2) _ ?_ (H0,S.length) hP
 rintro⟨H,m⟩ hP
 simp only at hP⊢
 have hl:=hP.perm.length_eq
 have hle:=hP.le
 cases m with
 |zero=>
  have c1:¬((0:Nat):Int)-1≥0:=by omega
  right
  simp only[qb8,wg,wC,qc,wm,wt,zgy,↓qf,↓wd,wa,Int.reduceSub,Int.reduceNeg,wc]
  exact⟨_,rfl,H,rfl,rfl,rfl,hP⟩
 |succ k=>
  have e1:((k+1:Nat):Int)-1=(k:Int):=by omega
  have c1:(k:Int)≥0:=by omega
  have w1:IntKind.i64.wrap ((k:Int)-1)=(k:Int)-1:=qan (by omega) (by omega)
  obtain⟨D,hD⟩ : ∃D,D=P++(H++Q):=⟨_,rfl⟩
  have g0:D[f]? = some (at0 H 0):=by
   rw[←qi9 (by omega:0<H.length)];exact qks hD (by omega) (by omega)
  have gk:D[f+k]? = some (at0 H k):=by
   rw[←qi9 (by omega:k<H.length)];exact qks hD (by omega) (by omega)
  obtain⟨z,hz⟩:=qfl g0 gk
  obtain⟨H1,hH1⟩ : ∃H1,H1=(H.set 0 (at0 H k)).set k (at0 H 0):=⟨_,rfl⟩
  have hl1:H1.length=H.length:=by rw[hH1];simp
  have hr1:(((D.map qk).set f [(ii (at0 H k))]).set (f+k) [(ii (at0 H 0))])=(P++(H1++Q)).map qk:=by
   have e2:(D.set f (at0 H k)).set (f+k) (at0 H 0)=P++(H1++Q):=by
    have s1:=qt8 (L:=P) (S:=H) (N:=Q) (i:=0) (x:=at0 H k) (by omega)
    rw[Nat.add_zero]at s1
    rw[hD,hf,s1,qt8 (by simp;omega),hH1]
   rw[←e2,wi,wi];rfl
  have hH1h:qze H1 (0+1) k:=fun i c h1 h2 h3=>by
   rw[hH1,quh (by omega) (by omega),quh (by omega) (by omega),if_neg (by omega),if_neg (by omega),if_neg (by omega),if_neg (by omega)]
   exact hP.heap i c (Nat.zero_le _) h2 (by omega)
  have w2:IntKind.i64.wrap ((f:Int)+(k:Int))=((f+k:Nat):Int):=qke (by omega)
  have r1:f<n:=by omega
  have r2:f+k<n:=by omega
  obtain⟨H2,q1,q2,q3,q4⟩:=q0g g cl n P H1 Q 0 k f hf (by omega) (by rw[hlen];simp[hl1,hl]) hb (by omega) hH1h
  have hz0:((0:Nat):Int)=0:=rfl
  rw[hz0]at q4
  left
  refine⟨(H2,k),?_,hP.pop (by rw[←hH1];exact q1) (by rw[←hH1];exact q2) q3,by simp only;omega⟩
  rw[e1,←hD]
  simp only[qb8,zgs,zgr,zgq,zgt,c1,w1,w2,g0,gk,hz,hr1,r1,r2,q4,qk,qe,wg,wC,qc,wm,wt,wk,wf,zgy,↓qf,↓wd,wa,we,wc]
theorem heap_ev (P S Q:List Int) (a b:Nat) (ha:a=P.length) (hbb:b=a+S.length) (hS:0<S.length) (hn:n=(P++(S++Q)).length) (hb:n<2^60) :
  ∃S':List Int,S'.Perm S∧LeI S'∧(evL T).call qav [.sl 0 g 0 n cl,(ii a),(ii b)] [.row 1 ((P++(S++Q)).map qk) g,.row 1 [[.sl 0 g 0 n false]] 0,.dead,.loop ⟨[(2,.ptr 1 0 0 0)],[]⟩ [7] qb qa .exhausted none]=some (.tup [],[.row 1 ((P++(S'++Q)).map qk) g,.row 1 [[.sl 0 g 0 n false]] 0,.dead,.loop ⟨[(2,.ptr 1 0 0 0)],[]⟩ [7] qb qa .exhausted none]):=by
 have hlen:n=P.length+(S.length+Q.length):=by rw[hn];simp
 obtain⟨c,hc⟩ : ∃c,S.length=c+1:=⟨S.length-1,by omega⟩
 obtain⟨q,hq⟩ : ∃q,q=c / 2:=⟨_,rfl⟩
 have w0:IntKind.i64.wrap ((b:Int)-(a:Int))=(S.length:Int):=qg6 hbb (by omega)
 have w1:IntKind.i64.wrap ((S.length:Int)-1)=(c:Int):=qbn hc (by omega)
 have w2:=tdiv2 hq (by omega)
 obtain⟨⟨y,e,σ⟩,k1,H,k2,k3,k4,k5,k6,k7,k8,k9,k10⟩:=heap_l1 g cl n P S Q a ha hn hb (q+1) (by omega) (fun i ch h1 h2 h3=>by omega)
 simp only at k1 k2 k3 k4 k5 k6 k7 k8
 subst k2;subst k4
 have hl:=k9.length_eq
 have e1:((q+1:Nat):Int)-1=(q:Int):=by omega
 rw[e1]at k1
 have hP:Popped S H S.length:=⟨k9,by omega,k10,by rw[List.drop_of_length_le (by omega)];exact .nil,fun x _ y hy=>by rw[List.drop_of_length_le (by omega)]at hy;simp at hy⟩
 obtain⟨⟨y2,e2,σ2⟩,l1,H2,l2,l3,l4,l5⟩:=heap_l2 g cl n P S H Q a ha hn hb hP
 simp only at l1 l2 l3 l4
 subst l2;subst l4
 have e3:((S.length:Nat):Int)-1=(c:Int):=by omega
 rw[e3]at l1
 refine⟨H2,l5.perm,by have:=l5.tail;rwa[List.drop_zero]at this,?_⟩
 rw[qj qh8 qhl]
 simp only[qcq,w0,w1,w2,k1,k3,k5,k6,k7,k8,l1,l3,qe,wg,qn,wf,zgy,↓qf,↓qaq,↓wd,wh,wa,we,wy,wc]
end
open Go.Ev
set_option maxRecDepth 10000
structure G (P S0 A S1 B:List Int):Prop where
 perm:(A++(S1++B)).Perm S0
 sA:LeI A
 sB:LeI B
 aS : ∀x∈A,∀y∈S1,x≤y
 aB : ∀x∈A,∀y∈B,x≤y
 sb : ∀x∈S1,∀y∈B,x≤y
 pre : ∀u,(P++A)[(P++A).length-1]? = some u → ∀x∈S1,u≤x
section
variable {P S0 A S1 B L R:List Int} {v:Int}
theorem G.reorder (h:G P S0 A S1 B) {S2:List Int} (p:S2.Perm S1):G P S0 A S2 B:=
 ⟨(wq A (p.append_right B)).trans h.perm,h.sA,h.sB,fun x hx y hy=>h.aS x hx y (p.mem_iff.1 hy),h.aB,fun x hx=>h.sb x (p.mem_iff.1 hx),fun u hu x hx=>h.pre u hu x (p.mem_iff.1 hx)⟩
theorem qq2 {X Y:List Int} {u:Int} (hY:Y ≠ []) (h:(X++Y)[(X++Y).length-1]? = some u):u∈Y:=by
 have hl:0<Y.length:=List.length_pos_iff.2 hY
 rw[List.length_append,List.getElem?_append_right (by omega)]at h
 exact zmg h
theorem G.eq (h:G P S0 A S1 B) (p:(L++R).Perm S1) (hL : ∀x∈L,x≤v) (hR : ∀x∈R,v<x) (hL0:L ≠ []) {u:Int} (hu:(P++A)[(P++A).length-1]? = some u) (huv:v≤u):G P S0 (A++L) R B:=by
 have mL : ∀x∈L,x∈S1:=fun x hx=>p.mem_iff.1 (wG _ hx)
 have mR : ∀x∈R,x∈S1:=fun x hx=>p.mem_iff.1 (List.mem_append_right _ hx)
 have cL : ∀x∈L,x=u:=fun x hx=>by have:=hL x hx;have:=h.pre u hu x (mL x hx);omega
 refine⟨?_,qgx h.sA ?_ (fun x hx y hy=>h.aS x hx y (mL y hy)),h.sB,?_,?_,fun x hx=>h.sb x (mR x hx),?_⟩
 ·refine wD ?_ h.perm
  rw[wl]
  refine wq A ?_
  rw[←wl];exact p.append_right B
 ·unfold LeI
  rw[List.pairwise_iff_getElem]
  intro i j hi hj _
  have h1:=cL L[i] (List.getElem_mem hi)
  have h2:=cL L[j] (List.getElem_mem hj)
  omega
 ·intro x hx y hy
  rcases wA.1 hx with hx|hx
  ·exact h.aS x hx y (mR y hy)
  ·have:=hL x hx;have:=hR y hy;omega
 ·intro x hx y hy
  rcases wA.1 hx with hx|hx
  ·exact h.aB x hx y hy
  ·exact h.sb x (mL x hx) y hy
 ·intro w hw x hx
  rw[←wl]at hw
  have:=hL w (qq2 hL0 hw);have:=hR x hx;omega
theorem G.left (h:G P S0 A S1 B) (p:(L++v::R).Perm S1) (hL : ∀x∈L,x<v) (hR : ∀x∈R,¬x<v) {L':List Int} (pL:L'.Perm L) (sL:LeI L'):G P S0 (A++(L'++[v])) R B:=by
 have mL : ∀x∈L',x∈S1:=fun x hx=>p.mem_iff.1 (wG _ (pL.mem_iff.1 hx))
 have mR : ∀x∈R,x∈S1:=fun x hx=>p.mem_iff.1 (List.mem_append_right _ (wE _ hx))
 have mv:v∈S1:=p.mem_iff.1 (by simp)
 have mLv : ∀x∈L'++[v],x∈S1∧x≤v:=fun x hx=>by
  rcases wA.1 hx with hx|hx
  ·exact⟨mL x hx,by have:=hL x (pL.mem_iff.1 hx);omega⟩
  ·rw[List.mem_singleton]at hx;subst hx;exact⟨mv,Int.le_refl _⟩
 refine⟨?_,qgx h.sA (qgx sL (wz _ _) fun x hx y hy => ?_) (fun x hx y hy=>h.aS x hx y (mLv y hy).1),h.sB,?_,?_,fun x hx=>h.sb x (mR x hx),?_⟩
 ·refine wD ?_ h.perm
  rw[wl]
  refine wq A ?_
  rw[←wl]
  refine List.Perm.append_right B ?_
  refine wD ?_ p
  rw[wl]
  exact pL.append_right ([v]++R)
 ·rw[List.mem_singleton]at hy;subst hy;have:=hL x (pL.mem_iff.1 hx);omega
 ·intro x hx y hy
  rcases wA.1 hx with hx|hx
  ·exact h.aS x hx y (mR y hy)
  ·have:=(mLv x hx).2;have:=hR y hy;omega
 ·intro x hx y hy
  rcases wA.1 hx with hx|hx
  ·exact h.aB x hx y hy
  ·exact h.sb x (mLv x hx).1 y hy
 ·intro w hw x hx
  rw[←wl,←wl]at hw
  have:=qq2 (Y:=[v]) (by simp) hw
  rw[List.mem_singleton]at this;subst this
  have:=hR x hx;omega
theorem G.right (h:G P S0 A S1 B) (p:(L++v::R).Perm S1) (hL : ∀x∈L,x<v) (hR : ∀x∈R,¬x<v) {R':List Int} (pR:R'.Perm R) (sR:LeI R'):G P S0 A L (v::R'++B):=by
 have mL : ∀x∈L,x∈S1:=fun x hx=>p.mem_iff.1 (wG _ hx)
 have mR : ∀x∈R',x∈S1:=fun x hx=>p.mem_iff.1 (List.mem_append_right _ (wE _ (pR.mem_iff.1 hx)))
 have mv:v∈S1:=p.mem_iff.1 (by simp)
 have mvR : ∀x∈v::R',x∈S1∧v≤x:=fun x hx=>by
  rcases List.mem_cons.1 hx with rfl|hx
  ·exact⟨mv,Int.le_refl _⟩
  ·exact⟨mR x hx,by have:=hR x (pR.mem_iff.1 hx);omega⟩
 have svR:LeI (v::R'):=List.pairwise_cons.2 ⟨fun y hy=>(mvR y (wE _ hy)).2,sR⟩
 refine⟨?_,h.sA,qgx svR h.sB (fun x hx y hy=>h.sb x (mvR x hx).1 y hy),fun x hx y hy=>h.aS x hx y (mL y hy),?_,?_,fun u hu x hx=>h.pre u hu x (mL x hx)⟩
 ·refine wD ?_ h.perm
  refine wq A ?_
  rw[←wl]
  refine List.Perm.append_right B (wD ?_ p)
  exact wq L (List.Perm.cons v pR)
 ·intro x hx y hy
  rcases wA.1 hy with hy|hy
  ·exact h.aS x hx y (mvR y hy).1
  ·exact h.aB x hx y hy
 ·intro x hx y hy
  rcases wA.1 hy with hy|hy
  ·have:=(mvR y hy).2;have:=hL x hx;omega
  ·exact h.sb x (mL x hx) y hy
theorem G.done (h:G P S0 A S1 B) {S2:List Int} (p:S2.Perm S1) (s:LeI S2):(A++(S2++B)).Perm S0∧LeI (A++(S2++B)):=by
 have h2:=h.reorder p
 exact⟨h2.perm,qgx h2.sA (qgx s h2.sB h2.sb) fun x hx y hy=>by
  rcases wA.1 hy with hy|hy
  ·exact h2.aS x hx y hy
  ·exact h2.aB x hx y hy⟩
end
def qsu:CCode:=match qd with | .block _ c=>c|c=>c
def qn0 (c t:CCode):CCode:=match c with
 | .seq a0 (.seq a1 (.seq a2 (.seq a3 (.seq a4 _)))) => .seq a0 (.seq a1 (.seq a2 (.seq a3 (.seq a4 t))))
 | _=>t
def qgw (c t:CCode):CCode:=match c with
 | .seq a0 (.seq a1 _) => .seq a0 (.seq a1 t)
 | _=>t
def qkd:CCode:=match qsu with
 | .seq _ (.seq _ (.seq _ (.seq _ (.seq _ t))))=>t
 |c=>c
def qyj:CCode:=match qkd with
 | .seq _ (.seq _ t)=>t
 |c=>c
theorem qoh:qd = .block 1 (qn0 qsu (qgw qkd qyj)):=rfl
section
variable (g:Nat) (cl:Bool) (n:Nat)
def PdqAt (k:Nat):Prop:=∀(P S Q:List Int) (a b lim:Nat),S.length<k→S.length≤80→a=P.length→b=a+S.length→n=(P++(S++Q)).length→(∀u,P[P.length-1]? = some u → ∀x∈S,u≤x)→lim<1000 →
 ∃S':List Int,S'.Perm S∧LeI S'∧(evL T).call qac [.sl 0 g 0 n cl,(ii a),(ii b),(ii lim)] [.row 1 ((P++(S++Q)).map qk) g,.row 1 [[.sl 0 g 0 n false]] 0,.dead,.loop ⟨[(2,.ptr 1 0 0 0)],[]⟩ [7] qb qa .exhausted none]=some (.tup [],[.row 1 ((P++(S'++Q)).map qk) g,.row 1 [[.sl 0 g 0 n false]] 0,.dead,.loop ⟨[(2,.ptr 1 0 0 0)],[]⟩ [7] qb qa .exhausted none])
theorem pdq_st1 (hb:n<2^60) (P A S1 B Q:List Int) (a b lim:Nat) (wb wp:Bool) (ha:a=P.length+A.length) (hbb:b=a+S1.length) (hn:n=(P++(A++(S1++(B++Q)))).length) (hS:S1.length≤80) (hl2:lim<1000) :
  (∃(y:CExit×Env×qh) (S2:List Int),(∀t,exec (evL T) itL none (qn0 qsu t) ⟨[(0,(.sl 0 g 0 n cl)),(1,(ii a)),(2,(ii b)),(3,(ii lim)),(8,(bb wb)),(9,(bb wp))],[]⟩ [.row 1 ((P++(A++(S1++(B++Q)))).map qk) g,.row 1 [[.sl 0 g 0 n false]] 0,.dead,.loop ⟨[(2,.ptr 1 0 0 0)],[]⟩ [7] qb qa .exhausted none]=some y)∧y.1 = .ret∧y.2.1.marks=[]∧S2.Perm S1∧LeI S2∧y.2.2=[.row 1 ((P++(A++(S2++(B++Q)))).map qk) g,.row 1 [[.sl 0 g 0 n false]] 0,.dead,.loop ⟨[(2,.ptr 1 0 0 0)],[]⟩ [7] qb qa .exhausted none]) ∨
  (∃(e:Env) (S2:List Int) (p lim':Nat) (h:Int),(∀t,exec (evL T) itL none (qn0 qsu t) ⟨[(0,(.sl 0 g 0 n cl)),(1,(ii a)),(2,(ii b)),(3,(ii lim)),(8,(bb wb)),(9,(bb wp))],[]⟩ [.row 1 ((P++(A++(S1++(B++Q)))).map qk) g,.row 1 [[.sl 0 g 0 n false]] 0,.dead,.loop ⟨[(2,.ptr 1 0 0 0)],[]⟩ [7] qb qa .exhausted none]=exec (evL T) itL none t e [.row 1 ((P++(A++(S2++(B++Q)))).map qk) g,.row 1 [[.sl 0 g 0 n false]] 0,.dead,.loop ⟨[(2,.ptr 1 0 0 0)],[]⟩ [7] qb qa .exhausted none])∧e.marks=[]∧S2.Perm S1∧13≤S1.length∧a≤p∧p<b∧lim'<1000 ∧
   qbk e.vars 0=some (.sl 0 g 0 n cl)∧qbk e.vars 1=some (ii a)∧qbk e.vars 2=some (ii b)∧qbk e.vars 3=some (ii lim')∧qbk e.vars 8=some (bb wb)∧qbk e.vars 9=some (bb wp)∧qbk e.vars 10=some (ii S1.length)∧qbk e.vars 11=some (ii p)∧qbk e.vars 12=some (ii h)):=by
 have hlen:n=P.length+(A.length+(S1.length+(B.length+Q.length))):=by rw[hn];simp
 have w0:IntKind.i64.wrap ((b:Int)-(a:Int))=(S1.length:Int):=qg6 hbb (by omega)
 by_cases hle:S1.length≤12
 ·have c1:(S1.length:Int)≤12:=by omega
  obtain⟨S2,p1,q1,r1⟩:=insI_ev g cl n (P++A) S1 (B++Q) (by simp;omega) (by omega) a b (by simp;omega) hbb
  simp only[wl]at r1
  refine .inl ⟨?_,S2,fun t => ?_,?_,?_,p1,q1,?_⟩
  case refine_2=>
   simp only[qsu,qn0,qd,w0,c1,r1,wg,zgy,↓qf,↓wd,wa,wc]
   exact rfl
  all_goals rfl
 have c1:¬(S1.length:Int)≤12:=by omega
 by_cases hl0:lim=0
 ·subst hl0
  obtain⟨S2,p1,q1,r1⟩:=heap_ev g cl n (P++A) S1 (B++Q) a b (by simp;omega) hbb (by omega) (by simp;omega) hb
  simp only[wl]at r1
  have c0:((0:Nat):Int)=0:=rfl
  refine .inl ⟨?_,S2,fun t => ?_,?_,?_,p1,q1,?_⟩
  case refine_2=>
   simp only[qsu,qn0,qd,w0,c1,c0,r1,wg,zgy,↓qf,↓wd,wa,wc]
   exact rfl
  all_goals rfl
 obtain⟨m,hm⟩ : ∃m,lim=m+1:=⟨lim-1,by omega⟩
 have c2:¬(lim:Int)=0:=by omega
 have w1:IntKind.i64.wrap ((lim:Int)-1)=(m:Int):=qbn hm (by omega)
 right
 cases wb with
 |true=>
  obtain⟨p,h,p1,p2,r1⟩:=qwf g cl n (P++(A++(S1++(B++Q)))) hn a b S1.length hbb (by omega) (by omega) (by omega)
  refine⟨?_,S1,p,lim,h,fun t => ?_,?_,.refl _,by omega,p1,p2,hl2,?_⟩
  case refine_2=>
   simp only[qsu,qn0,qd,w0,c1,c2,r1,wg,zgy,↓qf,↓wd,wa,wc]
   exact rfl
  case refine_3=>rfl
  case refine_4=>simp only[wg,zgy,↓wd,wa,wc]
 |false=>
  obtain⟨S2,p1,r1⟩:=brk_ev g cl n (P++A) S1 (B++Q) a b (by simp;omega) hbb (by omega) (by simp;omega) (by omega)
  have hl:=p1.length_eq
  simp only[wl]at r1
  obtain⟨p,h,q1,q2,r2⟩:=qwf g cl n (P++(A++(S2++(B++Q)))) (by simp;omega) a b S1.length hbb (by omega) (by omega) (by omega)
  refine⟨?_,S2,p,m,h,fun t => ?_,?_,p1,by omega,q1,q2,by omega,?_⟩
  case refine_2=>
   simp only[qsu,qn0,qd,w0,c1,c2,w1,r1,r2,wg,zgy,↓qf,↓wd,wa,wc]
   exact rfl
  case refine_3=>rfl
  case refine_4=>simp only[wg,zgy,↓wd,wa,wc]
end
end Go.Proofs.Ytjliejhcjeodfaa.K
