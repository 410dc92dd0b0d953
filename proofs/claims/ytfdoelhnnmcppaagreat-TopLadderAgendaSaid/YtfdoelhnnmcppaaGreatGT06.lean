/- For every input the statement of this claim returns true: texts of its proof, joined (part 7). -/
import Derived.Test.YtfdoelhnnmcppaaGreatProg
import Derived.KernelRfl
import Derived.Test.YtfdoelhnnmcppaaGreatET3
import Derived.Test.YtfdoelhnnmcppaaGreatGT04
import Derived.Test.YtfdoelhnnmcppaaGreatSKT
set_option linter.unusedSectionVars false
set_option linter.unusedSimpArgs false
set_option linter.unusedVariables false
open Nat renaming reduceEqDiff → wc, reduceAdd → wf, reduceLeDiff → wB, le_refl → wK
open _root_ renaming reduceCtorEq → wd, reduceIte → we
open Go.Ev renaming ev1 → wg, look → wh
open Go.Ev.AV renaming cells → wj, plain → wk
open Go.Ev.SObj renaming lo → wl
open List renaming eq_nil_of_length_eq_zero → wm, append_assoc → wn, mem_append → wo, getElem?_eq_getElem → wp, length_append → wq, getElem?_set_ne → wr, drop_eq_getElem_cons → wu, map_set → wv, take_append_drop → wx, getElem?_eq_some_iff → wy, pairwise_append → wz, mem_cons → wA, nil_append → wD, getElem?_map → wE, mem_cons_of_mem → wF, mem_append_left → wG, take_length → wH, length_cons → wI, pairwise_cons → wJ
open Int renaming reduceNeg → wt, lt_irrefl → ww, cast_ofNat_Int → wC
namespace Go.Proofs.YtfdoelhnnmcppaaGreat.K
open Go.Ev
set_option maxRecDepth 100000
theorem qx4:qdq Tryz.prog { frz:=[3],frzv:=[47],own:=[11],loops:=[([2,7,8,11,12],true),([2,7,13,14,15],true),([7,13,14,17],true)] } qf9=some qhj:=by kernel_rfl
theorem qacp:qdq Tryz.prog {  } qme=some qzc:=by kernel_rfl
theorem qaeh:qdq Tryz.prog { frz:=[1] } qon=some qw8:=by kernel_rfl
theorem qadl:qdq Tryz.prog { frz:=[2],mA:=[15],mI:=[18,21] } qjd=some qoo:=by kernel_rfl
theorem q01:qdq Tryz.prog { mA:=[5],mI:=[7] } qdg=some ql2:=by kernel_rfl
theorem qadh:qdq Tryz.prog {  } qmq=some qyl:=by kernel_rfl
theorem q6s:qdq Tryz.prog { frz:=[3],appF:=[27],mA:=[49,72],mI:=[76],loops:=[([2,3,4,31,32,33],true)] } qiu=some qpk:=by kernel_rfl
theorem qac7:qdq Tryz.prog { mA:=[17],ldx:=[(20,2)] } qik=some qun:=by kernel_rfl
theorem qacs:qdq Tryz.prog { frz:=[1] } qmj=some quc:=by kernel_rfl
theorem qac6:qdq Tryz.prog { frz:=[4] } qop=some qyr:=by kernel_rfl
theorem qadc:qdq Tryz.prog {  } qmc=some qyn:=by kernel_rfl
theorem q1m:qdq Tryz.prog { loops:=[([0,1,7,12,13],true)] } qh2=some qpl:=by kernel_rfl
theorem q39:qdq Tryz.prog { mA:=[4] } qi3=some qrd:=by kernel_rfl
theorem q1e:qdq Tryz.prog { loops:=[([0,1,5],true)] } qhz=some qo8:=by kernel_rfl
theorem qaal:qdq Tryz.prog { frz:=[1],loops:=[([1,3,4,5],true),([1,3,4,6],true),([1,3,4,6,7],true)] } qky=some qid:=by kernel_rfl
theorem q9k:qdq Tryz.prog { frz:=[1] } qih=some qql:=by kernel_rfl
theorem q9r:qdq Tryz.prog { frz:=[1],mA:=[9],ldF:=[10],topZ:=[7],holes:=[1],fillC:=[(9,0)],ownS:=[(7,6)] } qjx=some qqj:=by kernel_rfl
theorem qw5:qdq Tryz.prog { mI:=[12,15],loops:=[([0,1],true)] } qek=some qiy:=by kernel_rfl
theorem quy:qdq Tryz.prog {  } qc6=some qgc:=by kernel_rfl
theorem qiv:qdq Tryz.prog { mI:=[8] } qw=some qbr:=by kernel_rfl
theorem qx8:qdq Tryz.prog { frz:=[2,3] } qd=some qjm:=by kernel_rfl
theorem qo6:qdq Tryz.prog {  } qa8=some qev:=by kernel_rfl
theorem q8e:qdq Tryz.prog { frz:=[1] } qij=some qqn:=by kernel_rfl
theorem qag6:qdq Tryz.prog { frz:=[3],appF:=[38] } qmy=some qzk:=by kernel_rfl
theorem qh8:qdq Tryz.prog { frz:=[4],loops:=[([0,2,4,8,9,10],true)] } qac=some qct:=by kernel_rfl
theorem qyk:qdq Tryz.prog { frz:=[2,3] } qe=some qj6:=by kernel_rfl
theorem qaab:qdq Tryz.prog { mI:=[17,23],ldF:=[27,28],ldx:=[(26,2)],icA:=[(4,1)],loops:=[([1,2,3],true)] } qjs=some qrs:=by kernel_rfl
theorem qacj:qdq Tryz.prog { frz:=[1],mA:=[11,22],loops:=[([3,13,14,15],true)] } ql7=some qui:=by kernel_rfl
theorem qacy:qdq Tryz.prog { frz:=[4,19],loops:=[([1,2,3,4,8,10,11],true)] } qov=some qzi:=by kernel_rfl
theorem qk1:qdq Tryz.prog { mA:=[24],bad:=true,loops:=[([0,3,9,10,11],true),([6,25,26,27],false)] } qj=some qc0:=by kernel_rfl
theorem q06:qdq Tryz.prog { loops:=[([0,1,5],true)] } qh0=some qpm:=by kernel_rfl
theorem q95:qdq Tryz.prog { frz:=[1],loops:=[([1,3],true),([1,4],true)] } qkq=some qjh:=by kernel_rfl
theorem qaaa:qdq Tryz.prog { frz:=[1],loops:=[([1,3],true),([1,5],true),([1,5,6],true)] } qkt=some qjq:=by kernel_rfl
theorem qwx:qdq Tryz.prog { frz:=[1],loops:=[([3,32,33,34],true)] } qdz=some qem:=by kernel_rfl
theorem qs1:qdq Tryz.prog { frz:=[1] } qck=some qg1:=by kernel_rfl
theorem qtu:qdq Tryz.prog { frz:=[1] } qcu=some qhc:=by kernel_rfl
theorem qvu:qdq Tryz.prog { frz:=[1] } qdh=some qif:=by kernel_rfl
theorem qqr:qdq Tryz.prog { loops:=[([1,8,9,10],true)] } qci=some qec:=by kernel_rfl
theorem q4p:qdq Tryz.prog {  } qe5=some qnw:=by kernel_rfl
theorem q5r:qdq Tryz.prog { frz:=[1],topZ:=[11],loops:=[([3,13,14,15],false),([3,4,13,14,15,20,21,22],false)] } qhi=some qpa:=by kernel_rfl
theorem q4y:qdq Tryz.prog { frz:=[1],frzv:=[37],own:=[3],loops:=[([3,9,10,11],true),([3,4,9,10,11,16,17,18],true)] } qgw=some qnu:=by kernel_rfl
theorem qtw:qdq Tryz.prog { mA:=[92],mI:=[94],mF:=[95],holes:=[2],fillB:=[(5,2)],appB:=[(38,0),(38,2)],ldB:=[(25,0),(27,2)] } qdm=some qo:=by kernel_rfl
theorem qns:qdq Tryz.prog { mI:=[18,27,43,60],loops:=[([0,1,2,6,7,8],true),([0,1,2,6],true),([0,1,2,6,7,8],true)] } qbc=some qd6:=by kernel_rfl
theorem qaaw:qdq Tryz.prog {  } qje=some qrp:=by kernel_rfl
theorem q3o:qdq Tryz.prog {  } qei=some qio:=by kernel_rfl
theorem qz6:qdq Tryz.prog {  } qfy=some qks:=by kernel_rfl
theorem qab3:qdq Tryz.prog { frz:=[2] } qjl=some quf:=by kernel_rfl
theorem qahi:qdq Tryz.prog { frz:=[1] } qp6=some qz1:=by kernel_rfl
theorem q8v:qdq Tryz.prog {  } qj0=some qqi:=by kernel_rfl
theorem qvn:qdq Tryz.prog { mA:=[9] } qc7=some qhu:=by kernel_rfl
theorem q25:qdq Tryz.prog { mA:=[33],mI:=[79],ice:=[(7,0)] } qfb=some qf4:=by kernel_rfl
theorem q4u:qdq Tryz.prog { mI:=[49] } qgx=some qln:=by kernel_rfl
theorem qog:qdq Tryz.prog { mA:=[24],bad:=true,loops:=[([0,3,9,10,11],true),([6,25,26,27],false)] } qar=some qgf:=by kernel_rfl
theorem q8n:qdq Tryz.prog { mF:=[9] } qlr=some qux:=by kernel_rfl
theorem q9j:qdq Tryz.prog { frzv:=[27],own:=[4],loops:=[([4,7,8,9],true)] } qls=some qvc:=by kernel_rfl
theorem q7k:qdq Tryz.prog { mA:=[4] } qjz=some qvi:=by kernel_rfl
theorem q33:qdq Tryz.prog { mA:=[16],mI:=[33,41],loops:=[([1,2,8,9],true)] } qi2=some qrk:=by kernel_rfl
theorem q0g:qdq Tryz.prog { frz:=[4,5],appF:=[110,117],frzv:=[102],mA:=[26,29,32],mF:=[103],ldB:=[(71,10)],stA:=[(78,10)],loops:=[([2,3,4,5,8,9,10,11,40,41,42],true)] } qg7=some qn1:=by kernel_rfl
theorem qlu:qdq Tryz.prog { bad:=true } qaj=some qb3:=by kernel_rfl
theorem q3n:qdq Tryz.prog { frz:=[2,3] } qin=some qp2:=by kernel_rfl
theorem qaam:qdq Tryz.prog { frz:=[1],loops:=[([1,3],true)] } qk8=some qfs:=by kernel_rfl
theorem qaav:qdq Tryz.prog { loops:=[([0,1,2,3,9],true),([0,2,3,10],true),([0,3,11],true)] } qkv=some qjr:=by kernel_rfl
theorem q5x:qdq Tryz.prog {  } qex=some qpf:=by kernel_rfl
theorem q44:qdq Tryz.prog {  } qfq=some qn0:=by kernel_rfl
theorem qxc:qdq Tryz.prog { loops:=[([1,8,9,10],true)] } qel=some qg3:=by kernel_rfl
theorem qsg:qdq Tryz.prog {  } qb7=some qgo:=by kernel_rfl
theorem q59:qdq Tryz.prog { loops:=[([0,33,34,35],true),([0,11,33,34,35,39,40,41],true)] } qip=some qkd:=by kernel_rfl
theorem qua:qdq Tryz.prog { loops:=[([1,8,9,10],true)] } qdl=some qfp:=by kernel_rfl
theorem qt5:qdq Tryz.prog {  } qcx=some qha:=by kernel_rfl
theorem qut:qdq Tryz.prog { loops:=[([1,8,9,10],true)] } qd2=some qf8:=by kernel_rfl
theorem qsa:qdq Tryz.prog { frz:=[2] } qb8=some qgm:=by kernel_rfl
theorem q97:qdq Tryz.prog { mA:=[6] } qjo=some qrt:=by kernel_rfl
theorem q8r:qdq Tryz.prog { frz:=[3,5],mA:=[52],mI:=[59,82,88],ldF:=[80],ldx:=[(96,6),(100,6),(104,6)],ownB:=[(56,(10,6)),(56,(12,1))] } qeh=some qbp:=by kernel_rfl
theorem qrw:qdq Tryz.prog { frz:=[2] } qs=some qgp:=by kernel_rfl
theorem qpe:qdq Tryz.prog {  } qbt=some qeu:=by kernel_rfl
theorem qqx:qdq Tryz.prog {  } qap=some qfu:=by kernel_rfl
theorem qv8:qdq Tryz.prog { loops:=[([0,1,12,13],true)] } qcn=some qe7:=by kernel_rfl
theorem qjy:qdq Tryz.prog { mI:=[10],loops:=[([0,1,5,6],true)] } qaf=some qba:=by kernel_rfl
theorem qkx:qdq Tryz.prog { loops:=[([0,1,2,3,8],true),([0,1,2,3,8,9],true)] } qab=some qcz:=by kernel_rfl
theorem qm5:qdq Tryz.prog { mI:=[191,205,219],loops:=[([0,1,4,10,11],true),([0,10,13],true),([0,2,4,14,15],true),([0,14,17],true),([0,1,2,3,4,18,19,20,21,22],true)] } qm=some qa5:=by kernel_rfl
theorem qade:qdq Tryz.prog { loops:=[([3,6,7,8],true)] } qmg=some qqz:=by kernel_rfl
theorem q6m:qdq Tryz.prog {  } qhg=some qpb:=by kernel_rfl
theorem qt9:qdq Tryz.prog { loops:=[([0,1,9,10,11],true)] } qdn=some qdp:=by kernel_rfl
theorem q9f:qdq Tryz.prog {  } qjw=some qqo:=by kernel_rfl
theorem qafb:qdq Tryz.prog {  } qml=some qsm:=by kernel_rfl
theorem q58:qdq Tryz.prog { appF:=[35],loops:=[([0,8,14,15,16],true)] } qgj=some qmm:=by kernel_rfl
theorem q5w:qdq Tryz.prog {  } qit=some qo4:=by kernel_rfl
theorem q6i:qdq Tryz.prog { mA:=[5],mI:=[7] } qhh=some qph:=by kernel_rfl
theorem q1z:qdq Tryz.prog { frz:=[2,3] } qdi=some ql0:=by kernel_rfl
theorem qno:qdq Tryz.prog { bad:=true,loops:=[([0,1,4,5,6],true)] } qbb=some qea:=by kernel_rfl
theorem qnl:qdq Tryz.prog { bad:=true,loops:=[([0,1,4,5,6],true)] } qbd=some qd8:=by kernel_rfl
theorem q70:qdq Tryz.prog {  } qjv=some qqm:=by kernel_rfl
theorem qo5:qdq Tryz.prog { bad:=true } qcl=some qg0:=by kernel_rfl
theorem q3u:qdq Tryz.prog { mA:=[12],mF:=[53],topZ:=[15],ownS:=[(15,6)],appB:=[(33,8)],ldB:=[(25,8)],loops:=[([5,6,17,18,19],true),([5,36,37,38],true)] } qh7=some qrf:=by kernel_rfl
theorem qx0:qdq Tryz.prog { bad:=true,loops:=[([0,3,4],true)] } qf2=some qma:=by kernel_rfl
theorem q56:qdq Tryz.prog {  } qke=some qtl:=by kernel_rfl
theorem q6x:qdq Tryz.prog { mA:=[7],topZ:=[12],ownB:=[(12,(3,2))],fillC:=[(10,0)],ice:=[(1,0)],loops:=[([5,18,19],true)] } qkl=some qs8:=by kernel_rfl
theorem q0d:qdq Tryz.prog { ldK:=[(24,(0,2))],keep:=[(28,(0,(2,1)))] } qfx=some qol:=by kernel_rfl
theorem q4k:qdq Tryz.prog { frz:=[2] } qja=some qri:=by kernel_rfl
theorem q41:qdq Tryz.prog { frz:=[4,5],mI:=[21,26,28],ownB:=[(17,(5,6)),(17,(6,6))],loops:=[([4,13],true)] } qi5=some qrh:=by kernel_rfl
theorem qxj:qdq Tryz.prog {  } qfj=some qlz:=by kernel_rfl
theorem qqe:qdq Tryz.prog {  } qc5=some qhf:=by kernel_rfl
theorem q52:qdq Tryz.prog {  } qkb=some qs4:=by kernel_rfl
theorem q9z:qdq Tryz.prog { loops:=[([0,3],true)] } qkz=some qk6:=by kernel_rfl
theorem q4b:qdq Tryz.prog { frz:=[3] } qh4=some qe4:=by kernel_rfl
theorem q49:qdq Tryz.prog {  } qa3=some qnx:=by kernel_rfl
theorem qwu:qdq Tryz.prog { frz:=[2,3] } qag=some qiz:=by kernel_rfl
theorem qs6:qdq Tryz.prog { frz:=[2,3],ldF:=[41,60,79] } qq=some qbe:=by kernel_rfl
theorem qvh:qdq Tryz.prog { frz:=[2,3] } qv=some qh1:=by kernel_rfl
theorem qwd:qdq Tryz.prog { frz:=[2,3] } qy=some qic:=by kernel_rfl
theorem qup:qdq Tryz.prog {  } qaa=some qf3:=by kernel_rfl
theorem qrc:qdq Tryz.prog { mA:=[6],mI:=[10,19,44,49],loops:=[([0,1,4,7],true)] } qcr=some qeo:=by kernel_rfl
theorem qqw:qdq Tryz.prog { loops:=[([0,1,7,8],true)] } qcj=some qeb:=by kernel_rfl
theorem qj4:qdq Tryz.prog { loops:=[([0,1,7,8],true)] } qu=some qbj:=by kernel_rfl
theorem qnr:qdq Tryz.prog { mI:=[31,46,57],loops:=[([0,2,4,10,11],true)] } qax=some qd7:=by kernel_rfl
theorem ql4:qdq Tryz.prog { loops:=[([0,1,7,8],true)] } qay=some qb9:=by kernel_rfl
theorem qaaf:qdq Tryz.prog {  } qhb=some qrz:=by kernel_rfl
theorem qagq:qdq Tryz.prog {  } qp3=some qzy:=by kernel_rfl
theorem qpn:qdq Tryz.prog {  } qbv=some qew:=by kernel_rfl
theorem qyg:qdq Tryz.prog {  } qej=some qj7:=by kernel_rfl
theorem qku:qdq Tryz.prog { mI:=[8] } qaq=some qc1:=by kernel_rfl
theorem q5t:qdq Tryz.prog { mA:=[8],mI:=[9] } qkg=some qsx:=by kernel_rfl
theorem qaey:qdq Tryz.prog { frz:=[20],topZ:=[22],ownB:=[(22,(0,6))] } qpy=some q02:=by kernel_rfl
theorem qyd:qdq Tryz.prog { mI:=[11,21] } qfg=some qnc:=by kernel_rfl
theorem qv1:qdq Tryz.prog { frz:=[2,3] } qfd=some qk4:=by kernel_rfl
theorem qu8:qdq Tryz.prog { frz:=[4,5],loops:=[([0,5,8,50,51,52],true),([0,81,82,83],true)] } qes=some qka:=by kernel_rfl
theorem qvt:qdq Tryz.prog { ldx:=[(14,2),(18,2),(22,2),(26,2)] } qe9=some qk5:=by kernel_rfl
theorem q0h:qdq Tryz.prog { loops:=[([0,1,5],true)] } qg9=some qoa:=by kernel_rfl
theorem qaar:qdq Tryz.prog {  } qhd=some qr3:=by kernel_rfl
theorem qaak:qdq Tryz.prog {  } qie=some qr7:=by kernel_rfl
theorem qwq:qdq Tryz.prog {  } qen=some qix:=by kernel_rfl
theorem ql8:qdq Tryz.prog { loops:=[([0,1,2,3,10],true)] } qad=some qds:=by kernel_rfl
theorem qps:qdq Tryz.prog { mI:=[18,27,43,60],loops:=[([0,1,2,6,7,8],true),([0,1,2,6],true),([0,1,2,6,7,8],true)] } qb0=some qfa:=by kernel_rfl
theorem qqs:qdq Tryz.prog { mI:=[4] } qdf=some qh3:=by kernel_rfl
theorem q4m:qdq Tryz.prog {  } qi9=some qq2:=by kernel_rfl
theorem qaaj:qdq Tryz.prog {  } qm0=some qw2:=by kernel_rfl
theorem q09:qdq Tryz.prog { frz:=[7],mI:=[16] } qgk=some qpd:=by kernel_rfl
theorem q0e:qdq Tryz.prog { frz:=[2,3] } qg6=some qoh:=by kernel_rfl
theorem qxx:qdq Tryz.prog { mI:=[10] } qf5=some qmk:=by kernel_rfl
theorem qtq:qdq Tryz.prog { loops:=[([0,1,2],true)] } qeg=some qju:=by kernel_rfl
theorem q8o:qdq Tryz.prog { mA:=[20] } qlt=some quw:=by kernel_rfl
theorem q4o:qdq Tryz.prog { frz:=[3],mA:=[14],mI:=[18] } qi8=some qq7:=by kernel_rfl
theorem q42:qdq Tryz.prog { frz:=[3],mA:=[21],mI:=[9] } qi6=some qq8:=by kernel_rfl
theorem q6y:qdq Tryz.prog {  } qir=some qsu:=by kernel_rfl
theorem qu0:qdq Tryz.prog { frz:=[3],mI:=[14,15],ldF:=[7] } qcd=some qho:=by kernel_rfl
theorem qu5:qdq Tryz.prog { frz:=[3],mI:=[13] } qcb=some qhy:=by kernel_rfl
theorem qty:qdq Tryz.prog { frz:=[3],mI:=[7,21,22],mR:=[9],ldF:=[12] } qb4=some qhe:=by kernel_rfl
theorem qu6:qdq Tryz.prog { frz:=[3],mI:=[7] } qbx=some qgb:=by kernel_rfl
theorem qtz:qdq Tryz.prog { frz:=[3],mI:=[33,34],ldF:=[30] } qb5=some qfo:=by kernel_rfl
theorem qvv:qdq Tryz.prog { frz:=[3] } qcm=some qgq:=by kernel_rfl
theorem qu7:qdq Tryz.prog { frz:=[3],mI:=[17],ldF:=[19] } qcf=some qd3:=by kernel_rfl
theorem qv3:qdq Tryz.prog { frz:=[3] } qcq=some qh9:=by kernel_rfl
theorem ql9:qdq Tryz.prog { loops:=[([0,1,2,3,8],true),([0,1,2,3,8,9],true)] } qam=some qdu:=by kernel_rfl
theorem qo1:qdq Tryz.prog { mI:=[191,205,219],loops:=[([0,1,4,10,11],true),([0,10,13],true),([0,2,4,14,15],true),([0,14,17],true),([0,1,2,3,4,18,19,20,21,22],true)] } qr=some qbq:=by kernel_rfl
theorem qj3:qdq Tryz.prog { own:=[2],loops:=[([2],true)] } qaw=some qd1:=by kernel_rfl
theorem q1v:qdq Tryz.prog { loops:=[([0,1,2],true)] } qhw=some qo9:=by kernel_rfl
theorem qx9:qdq Tryz.prog { mI:=[20,44] } qez=some qmr:=by kernel_rfl
theorem qy3:qdq Tryz.prog {  } qgt=some qnh:=by kernel_rfl
theorem qx5:qdq Tryz.prog { ldF:=[5,6,10] } qga=some qmn:=by kernel_rfl
theorem q0k:qdq Tryz.prog { mI:=[10],ldK:=[(14,(0,2))],keep:=[(10,(0,(2,1)))] } qfv=some qoc:=by kernel_rfl
theorem qf1:qdq Tryz.prog { frz:=[4],loops:=[([0,2,4,8,9,10],true)] } qn=some qbm:=by kernel_rfl
theorem q1q:qdq Tryz.prog { frz:=[2] } qht=some qpp:=by kernel_rfl
theorem qsr:qdq Tryz.prog {  } qbf=some qfe:=by kernel_rfl
theorem qvp:qdq Tryz.prog {  } qcp=some qia:=by kernel_rfl
theorem qpt:qdq Tryz.prog { mI:=[31,46,57],loops:=[([0,2,4,10,11],true)] } qbg=some qfc:=by kernel_rfl
theorem qyz:qdq Tryz.prog {  } qgu=some qna:=by kernel_rfl
theorem qvs:qdq Tryz.prog {  } qe8=some qk7:=by kernel_rfl
theorem qz9:qdq Tryz.prog { mI:=[13] } qg5=some qoe:=by kernel_rfl
theorem qod:qdq Tryz.prog { loops:=[([0,1,2,3,10],true)] } qas=some qed:=by kernel_rfl
theorem qya:qdq Tryz.prog {  } qf7=some qmd:=by kernel_rfl
theorem qkr:qtm Tryz.prog qat=some (6,64):=by kernel_rfl
theorem qoj:qtm Tryz.prog qau=some (4,48):=by kernel_rfl
theorem qn4:qtm Tryz.prog qa6=some (3,24):=by kernel_rfl
theorem qni:qtm Tryz.prog qc2=some (1,24):=by kernel_rfl
theorem qkc:qtm Tryz.prog qa2=some (1,24):=by kernel_rfl
theorem qp9:qtm Tryz.prog qft=some (4,48):=by kernel_rfl
theorem quv:qtm Tryz.prog qgr=some (1,8):=by kernel_rfl
theorem qoi:qtm Tryz.prog qdj=some (4,48):=by kernel_rfl
theorem qnp:InsB Tryz.prog qda 3 24 57 35 4:=⟨by kernel_rfl,by kernel_rfl,by kernel_rfl,by kernel_rfl,by kernel_rfl,by kernel_rfl,by kernel_rfl,by kernel_rfl,by kernel_rfl,by kernel_rfl,by kernel_rfl,by kernel_rfl,by kernel_rfl,by kernel_rfl,by kernel_rfl,by kernel_rfl,by kernel_rfl,by kernel_rfl,by kernel_rfl,by kernel_rfl,by kernel_rfl,by kernel_rfl,by kernel_rfl,by kernel_rfl⟩
theorem qko:InsB Tryz.prog qbs 6 64 185 33 4:=⟨by kernel_rfl,by kernel_rfl,by kernel_rfl,by kernel_rfl,by kernel_rfl,by kernel_rfl,by kernel_rfl,by kernel_rfl,by kernel_rfl,by kernel_rfl,by kernel_rfl,by kernel_rfl,by kernel_rfl,by kernel_rfl,by kernel_rfl,by kernel_rfl,by kernel_rfl,by kernel_rfl,by kernel_rfl,by kernel_rfl,by kernel_rfl,by kernel_rfl,by kernel_rfl,by kernel_rfl⟩
def codeL:List (Nat×CFunc):=[(qf9,qhj),(qme,qzc),(qon,qw8),(qjd,qoo),(qdg,ql2),(qmq,qyl),(qiu,qpk),(qik,qun),(qmj,quc),(qop,qyr),(qmc,qyn),(qh2,qpl),(qi3,qrd),(qhz,qo8),(qky,qid),(qih,qql),(qjx,qqj),(qek,qiy),(qc6,qgc),(qw,qbr),(qd,qjm),(qa8,qev),(qij,qqn),(qmy,qzk),(qac,qct),(qe,qj6),(qjs,qrs),(ql7,qui),(qov,qzi),(qj,qc0),(qh0,qpm),(qkq,qjh),(qkt,qjq),(qdz,qem),(qck,qg1),(qcu,qhc),(qdh,qif),(qci,qec),(qe5,qnw),(qhi,qpa),(qgw,qnu),(qdm,qo),(qbc,qd6),(qje,qrp),(qei,qio),(qfy,qks),(qjl,quf),(qp6,qz1),(qj0,qqi),(qc7,qhu),(qfb,qf4),(qgx,qln),(qar,qgf),(qlr,qux),(qls,qvc),(qjz,qvi),(qi2,qrk),(qg7,qn1),(qaj,qb3),(qin,qp2),(qk8,qfs),(qkv,qjr),(qex,qpf),(qfq,qn0),(qel,qg3),(qb7,qgo),(qip,qkd),(qdl,qfp),(qcx,qha),(qd2,qf8),(qb8,qgm),(qjo,qrt),(qeh,qbp),(qs,qgp),(qbt,qeu),(qap,qfu),(qcn,qe7),(qaf,qba),(qab,qcz),(qm,qa5),(qmg,qqz),(qhg,qpb),(qdn,qdp),(qjw,qqo),(qml,qsm),(qgj,qmm),(qit,qo4),(qhh,qph),(qdi,ql0),(qbb,qea),(qbd,qd8),(qjv,qqm),(qcl,qg0),(qh7,qrf),(qf2,qma),(qke,qtl),(qkl,qs8),(qfx,qol),(qja,qri),(qi5,qrh),(qfj,qlz),(qc5,qhf),(qkb,qs4),(qkz,qk6),(qh4,qe4),(qa3,qnx),(qag,qiz),(qq,qbe),(qv,qh1),(qy,qic),(qaa,qf3),(qcr,qeo),(qcj,qeb),(qu,qbj),(qax,qd7),(qay,qb9),(qhb,qrz),(qp3,qzy),(qbv,qew),(qej,qj7),(qaq,qc1),(qkg,qsx),(qpy,q02),(qfg,qnc),(qfd,qk4),(qes,qka),(qe9,qk5),(qg9,qoa),(qhd,qr3),(qie,qr7),(qen,qix),(qad,qds),(qb0,qfa),(qdf,qh3),(qi9,qq2),(qm0,qw2),(qgk,qpd),(qg6,qoh),(qf5,qmk),(qeg,qju),(qlt,quw),(qi8,qq7),(qi6,qq8),(qir,qsu),(qcd,qho),(qcb,qhy),(qb4,qhe),(qbx,qgb),(qb5,qfo),(qcm,qgq),(qcf,qd3),(qcq,qh9),(qam,qdu),(qr,qbq),(qaw,qd1),(qhw,qo9),(qez,qmr),(qgt,qnh),(qga,qmn),(qfv,qoc),(qn,qbm),(qht,qpp),(qbf,qfe),(qcp,qia),(qbg,qfc),(qgu,qna),(qe8,qk7),(qg5,qoe),(qas,qed),(qf7,qmd)]
def extL:List (Nat×(Nat×Nat)):=[(qat,(6,64)),(qau,(4,48)),(qa6,(3,24)),(qc2,(1,24)),(qa2,(1,24)),(qft,(4,48)),(qgr,(1,8)),(qdj,(4,48))]
def insL:List (Nat×(Nat×Nat)):=[(qda,(3,24)),(qbs,(6,64))]
def qagg {α:Type}:List (Nat×α)→Nat→Option α
 | [],_=>none
 |(k,x)::l,i=>if k=i then some x else qagg l i
theorem q2z {α:Type} : ∀ {l:List (Nat×α)} {i:Nat} {x:α},qagg l i=some x→(i,x)∈l
 | [],_,_,h=>by simp[qagg]at h
 |(k,y)::l,i,x,h=>by
  simp only[qagg]at h
  split at h
  ·rename_i hk;subst hk;cases h;simp
  ·exact wF _ (q2z h)
def T:Tab:={ code:=qagg codeL,ext:=fun k=>(qagg extL k).map fun p=>qqp p.1 p.2,ins:=qagg insL }
theorem codeL_ok : ∀x∈codeL,∃h,qdq Tryz.prog h x.1=some x.2:=by
 intro x hx
 simp only[codeL,wA,List.not_mem_nil,or_false]at hx
 rcases hx with rfl|rfl|rfl|rfl|rfl|rfl|rfl|rfl|rfl|rfl|rfl|rfl|rfl|rfl|rfl|rfl|rfl|rfl|rfl|rfl|rfl|rfl|rfl|rfl|rfl|rfl|rfl|rfl|rfl|rfl|rfl|rfl|rfl|rfl|rfl|rfl|rfl|rfl|rfl|rfl|rfl|rfl|rfl|rfl|rfl|rfl|rfl|rfl|rfl|rfl|rfl|rfl|rfl|rfl|rfl|rfl|rfl|rfl|rfl|rfl|rfl|rfl|rfl|rfl|rfl|rfl|rfl|rfl|rfl|rfl|rfl|rfl|rfl|rfl|rfl|rfl|rfl|rfl|rfl|rfl|rfl|rfl|rfl|rfl|rfl|rfl|rfl|rfl|rfl|rfl|rfl|rfl|rfl|rfl|rfl|rfl|rfl|rfl|rfl|rfl|rfl|rfl|rfl|rfl|rfl|rfl|rfl|rfl|rfl|rfl|rfl|rfl|rfl|rfl|rfl|rfl|rfl|rfl|rfl|rfl|rfl|rfl|rfl|rfl|rfl|rfl|rfl|rfl|rfl|rfl|rfl|rfl|rfl|rfl|rfl|rfl|rfl|rfl|rfl|rfl|rfl|rfl|rfl|rfl|rfl|rfl|rfl|rfl|rfl|rfl|rfl|rfl|rfl|rfl|rfl|rfl|rfl|rfl|rfl|rfl|rfl|rfl|rfl|rfl|rfl|rfl|rfl|rfl|rfl|rfl
 ·exact⟨_,qx4⟩
 ·exact⟨_,qacp⟩
 ·exact⟨_,qaeh⟩
 ·exact⟨_,qadl⟩
 ·exact⟨_,q01⟩
 ·exact⟨_,qadh⟩
 ·exact⟨_,q6s⟩
 ·exact⟨_,qac7⟩
 ·exact⟨_,qacs⟩
 ·exact⟨_,qac6⟩
 ·exact⟨_,qadc⟩
 ·exact⟨_,q1m⟩
 ·exact⟨_,q39⟩
 ·exact⟨_,q1e⟩
 ·exact⟨_,qaal⟩
 ·exact⟨_,q9k⟩
 ·exact⟨_,q9r⟩
 ·exact⟨_,qw5⟩
 ·exact⟨_,quy⟩
 ·exact⟨_,qiv⟩
 ·exact⟨_,qx8⟩
 ·exact⟨_,qo6⟩
 ·exact⟨_,q8e⟩
 ·exact⟨_,qag6⟩
 ·exact⟨_,qh8⟩
 ·exact⟨_,qyk⟩
 ·exact⟨_,qaab⟩
 ·exact⟨_,qacj⟩
 ·exact⟨_,qacy⟩
 ·exact⟨_,qk1⟩
 ·exact⟨_,q06⟩
 ·exact⟨_,q95⟩
 ·exact⟨_,qaaa⟩
 ·exact⟨_,qwx⟩
 ·exact⟨_,qs1⟩
 ·exact⟨_,qtu⟩
 ·exact⟨_,qvu⟩
 ·exact⟨_,qqr⟩
 ·exact⟨_,q4p⟩
 ·exact⟨_,q5r⟩
 ·exact⟨_,q4y⟩
 ·exact⟨_,qtw⟩
 ·exact⟨_,qns⟩
 ·exact⟨_,qaaw⟩
 ·exact⟨_,q3o⟩
 ·exact⟨_,qz6⟩
 ·exact⟨_,qab3⟩
 ·exact⟨_,qahi⟩
 ·exact⟨_,q8v⟩
 ·exact⟨_,qvn⟩
 ·exact⟨_,q25⟩
 ·exact⟨_,q4u⟩
 ·exact⟨_,qog⟩
 ·exact⟨_,q8n⟩
 ·exact⟨_,q9j⟩
 ·exact⟨_,q7k⟩
 ·exact⟨_,q33⟩
 ·exact⟨_,q0g⟩
 ·exact⟨_,qlu⟩
 ·exact⟨_,q3n⟩
 ·exact⟨_,qaam⟩
 ·exact⟨_,qaav⟩
 ·exact⟨_,q5x⟩
 ·exact⟨_,q44⟩
 ·exact⟨_,qxc⟩
 ·exact⟨_,qsg⟩
 ·exact⟨_,q59⟩
 ·exact⟨_,qua⟩
 ·exact⟨_,qt5⟩
 ·exact⟨_,qut⟩
 ·exact⟨_,qsa⟩
 ·exact⟨_,q97⟩
 ·exact⟨_,q8r⟩
 ·exact⟨_,qrw⟩
 ·exact⟨_,qpe⟩
 ·exact⟨_,qqx⟩
 ·exact⟨_,qv8⟩
 ·exact⟨_,qjy⟩
 ·exact⟨_,qkx⟩
 ·exact⟨_,qm5⟩
 ·exact⟨_,qade⟩
 ·exact⟨_,q6m⟩
 ·exact⟨_,qt9⟩
 ·exact⟨_,q9f⟩
 ·exact⟨_,qafb⟩
 ·exact⟨_,q58⟩
 ·exact⟨_,q5w⟩
 ·exact⟨_,q6i⟩
 ·exact⟨_,q1z⟩
 ·exact⟨_,qno⟩
 ·exact⟨_,qnl⟩
 ·exact⟨_,q70⟩
 ·exact⟨_,qo5⟩
 ·exact⟨_,q3u⟩
 ·exact⟨_,qx0⟩
 ·exact⟨_,q56⟩
 ·exact⟨_,q6x⟩
 ·exact⟨_,q0d⟩
 ·exact⟨_,q4k⟩
 ·exact⟨_,q41⟩
 ·exact⟨_,qxj⟩
 ·exact⟨_,qqe⟩
 ·exact⟨_,q52⟩
 ·exact⟨_,q9z⟩
 ·exact⟨_,q4b⟩
 ·exact⟨_,q49⟩
 ·exact⟨_,qwu⟩
 ·exact⟨_,qs6⟩
 ·exact⟨_,qvh⟩
 ·exact⟨_,qwd⟩
 ·exact⟨_,qup⟩
 ·exact⟨_,qrc⟩
 ·exact⟨_,qqw⟩
 ·exact⟨_,qj4⟩
 ·exact⟨_,qnr⟩
 ·exact⟨_,ql4⟩
 ·exact⟨_,qaaf⟩
 ·exact⟨_,qagq⟩
 ·exact⟨_,qpn⟩
 ·exact⟨_,qyg⟩
 ·exact⟨_,qku⟩
 ·exact⟨_,q5t⟩
 ·exact⟨_,qaey⟩
 ·exact⟨_,qyd⟩
 ·exact⟨_,qv1⟩
 ·exact⟨_,qu8⟩
 ·exact⟨_,qvt⟩
 ·exact⟨_,q0h⟩
 ·exact⟨_,qaar⟩
 ·exact⟨_,qaak⟩
 ·exact⟨_,qwq⟩
 ·exact⟨_,ql8⟩
 ·exact⟨_,qps⟩
 ·exact⟨_,qqs⟩
 ·exact⟨_,q4m⟩
 ·exact⟨_,qaaj⟩
 ·exact⟨_,q09⟩
 ·exact⟨_,q0e⟩
 ·exact⟨_,qxx⟩
 ·exact⟨_,qtq⟩
 ·exact⟨_,q8o⟩
 ·exact⟨_,q4o⟩
 ·exact⟨_,q42⟩
 ·exact⟨_,q6y⟩
 ·exact⟨_,qu0⟩
 ·exact⟨_,qu5⟩
 ·exact⟨_,qty⟩
 ·exact⟨_,qu6⟩
 ·exact⟨_,qtz⟩
 ·exact⟨_,qvv⟩
 ·exact⟨_,qu7⟩
 ·exact⟨_,qv3⟩
 ·exact⟨_,ql9⟩
 ·exact⟨_,qo1⟩
 ·exact⟨_,qj3⟩
 ·exact⟨_,q1v⟩
 ·exact⟨_,qx9⟩
 ·exact⟨_,qy3⟩
 ·exact⟨_,qx5⟩
 ·exact⟨_,q0k⟩
 ·exact⟨_,qf1⟩
 ·exact⟨_,q1q⟩
 ·exact⟨_,qsr⟩
 ·exact⟨_,qvp⟩
 ·exact⟨_,qpt⟩
 ·exact⟨_,qyz⟩
 ·exact⟨_,qvs⟩
 ·exact⟨_,qz9⟩
 ·exact⟨_,qod⟩
 ·exact⟨_,qya⟩
theorem extL_ok : ∀x∈extL,qtm Tryz.prog x.1=some x.2:=by
 intro x hx
 simp only[extL,wA,List.not_mem_nil,or_false]at hx
 rcases hx with rfl|rfl|rfl|rfl|rfl|rfl|rfl|rfl
 ·exact qkr
 ·exact qoj
 ·exact qn4
 ·exact qni
 ·exact qkc
 ·exact qp9
 ·exact quv
 ·exact qoi
theorem mixed:Tryz.prog.follows .mixedOrders=true:=by kernel_rfl
theorem insL_ok : ∀x∈insL,InsOk Tryz.prog x.1 (insF x.2.1 x.2.2):=by
 intro x hx
 simp only[insL,wA,List.not_mem_nil,or_false]at hx
 rcases hx with rfl|rfl
 ·exact ins_ok mixed qnp
 ·exact ins_ok mixed qko
theorem T_ok:TabOk Tryz.prog T where
 code k f h:=codeL_ok _ (q2z h)
 ext k F h:=by
  simp only[T,Option.map_eq_some_iff]at h
  obtain⟨p,h1,rfl⟩:=h
  exact clone_ok mixed (extL_ok _ (q2z h1))
 ins k p h:=insL_ok (k,p) (q2z h)
 mixed:=mixed
theorem qos:T.code qf9=some qhj:=rfl
theorem qane:T.code qme=some qzc:=rfl
theorem q94:T.code qon=some qw8:=rfl
theorem q79:T.code qjd=some qoo:=rfl
theorem qyj:T.code qdg=some ql2:=rfl
theorem qame:T.code qmq=some qyl:=rfl
theorem q3m:T.code qiu=some qpk:=rfl
theorem q8u:T.code qik=some qun:=rfl
theorem q8s:T.code qmj=some quc:=rfl
theorem qal4:T.code qop=some qyr:=rfl
theorem qans:T.code qmc=some qyn:=rfl
theorem qaee:T.code qh2=some qpl:=rfl
theorem qag1:T.code qi3=some qrd:=rfl
theorem qafd:T.code qhz=some qo8:=rfl
theorem q5y:T.code qky=some qid:=rfl
theorem q4h:T.code qih=some qql:=rfl
theorem q5a:T.code qjx=some qqj:=rfl
theorem qu9:T.code qek=some qiy:=rfl
theorem qs5:T.code qc6=some qgc:=rfl
theorem qig:T.code qw=some qbr:=rfl
theorem qwh:T.code qd=some qjm:=rfl
theorem qof:T.code qa8=some qev:=rfl
theorem q4x:T.code qij=some qqn:=rfl
theorem qadg:T.code qmy=some qzk:=rfl
theorem qq1:T.code qac=some qct:=rfl
theorem qwr:T.code qe=some qj6:=rfl
theorem q5u:T.code qjs=some qrs:=rfl
theorem q7o:T.code ql7=some qui:=rfl
theorem qand:T.code qov=some qzi:=rfl
theorem qkk:T.code qj=some qc0:=rfl
theorem qafr:T.code qh0=some qpm:=rfl
theorem q6n:T.code qkq=some qjh:=rfl
theorem q6v:T.code qkt=some qjq:=rfl
theorem qvf:T.code qdz=some qem:=rfl
theorem qrj:T.code qck=some qg1:=rfl
theorem qr0:T.code qcu=some qhc:=rfl
theorem qtr:T.code qdh=some qif:=rfl
theorem qpw:T.code qci=some qec:=rfl
theorem q1b:T.code qe5=some qnw:=rfl
theorem q24:T.code qhi=some qpa:=rfl
theorem q1d:T.code qgw=some qnu:=rfl
theorem qrq:T.code qdm=some qo:=rfl
theorem qm1:T.code qbc=some qd6:=rfl
theorem q6a:T.code qje=some qrp:=rfl
theorem q0b:T.code qei=some qio:=rfl
theorem qxy:T.code qfy=some qks:=rfl
theorem q9q:T.code qjl=some quf:=rfl
theorem qacc:T.code qp6=some qz1:=rfl
theorem q4d:T.code qj0=some qqi:=rfl
theorem qs9:T.code qc7=some qhu:=rfl
theorem qnd:T.code qfb=some qf4:=rfl
theorem qs3:T.code qgx=some qln:=rfl
theorem qz8:T.code qar=some qgf:=rfl
theorem qaki:T.code qlr=some qux:=rfl
theorem qaj3:T.code qls=some qvc:=rfl
theorem qai7:T.code qjz=some qvi:=rfl
theorem qagm:T.code qi2=some qrk:=rfl
theorem qadv:T.code qg7=some qn1:=rfl
theorem qk3:T.code qaj=some qb3:=rfl
theorem qaf0:T.code qin=some qp2:=rfl
theorem q54:T.code qk8=some qfs:=rfl
theorem q50:T.code qkv=some qjr:=rfl
theorem q3e:T.code qex=some qpf:=rfl
theorem q1o:T.code qfq=some qn0:=rfl
theorem qvk:T.code qel=some qg3:=rfl
theorem qqy:T.code qb7=some qgo:=rfl
theorem q3j:T.code qip=some qkd:=rfl
theorem qr9:T.code qdl=some qfp:=rfl
theorem qry:T.code qcx=some qha:=rfl
theorem qtk:T.code qd2=some qf8:=rfl
theorem qqq:T.code qb8=some qgm:=rfl
theorem q6d:T.code qjo=some qrt:=rfl
theorem qm3:T.code qeh=some qbp:=rfl
theorem qqt:T.code qs=some qgp:=rfl
theorem qn8:T.code qbt=some qeu:=rfl
theorem qpv:T.code qap=some qfu:=rfl
theorem qt3:T.code qcn=some qe7:=rfl
theorem qi0:T.code qaf=some qba:=rfl
theorem qj9:T.code qab=some qcz:=rfl
theorem qeq:T.code qm=some qa5:=rfl
theorem q7t:T.code qmg=some qqz:=rfl
theorem q2p:T.code qhg=some qpb:=rfl
theorem qsc:T.code qdn=some qdp:=rfl
theorem q3w:T.code qjw=some qqo:=rfl
theorem q0o:T.code qml=some qsm:=rfl
theorem qud:T.code qgj=some qmm:=rfl
theorem q2o:T.code qit=some qo4:=rfl
theorem q2u:T.code qhh=some qph:=rfl
theorem qyv:T.code qdi=some ql0:=rfl
theorem qmx:T.code qbb=some qea:=rfl
theorem qmv:T.code qbd=some qd8:=rfl
theorem q4v:T.code qjv=some qqm:=rfl
theorem q1j:T.code qcl=some qg0:=rfl
theorem qagv:T.code qh7=some qrf:=rfl
theorem qabo:T.code qf2=some qma:=rfl
theorem qaix:T.code qke=some qtl:=rfl
theorem qail:T.code qkl=some qs8:=rfl
theorem qadr:T.code qfx=some qol:=rfl
theorem qagl:T.code qja=some qri:=rfl
theorem qagr:T.code qi5=some qrh:=rfl
theorem qaac:T.code qfj=some qlz:=rfl
theorem q2f:T.code qc5=some qhf:=rfl
theorem qah7:T.code qkb=some qs4:=rfl
theorem q6h:T.code qkz=some qk6:=rfl
theorem q05:T.code qh4=some qe4:=rfl
theorem q1p:T.code qa3=some qnx:=rfl
theorem qve:T.code qag=some qiz:=rfl
theorem qrg:T.code qq=some qbe:=rfl
theorem qsk:T.code qv=some qh1:=rfl
theorem qts:T.code qy=some qic:=rfl
theorem qmb:T.code qaa=some qf3:=rfl
theorem qp5:T.code qcr=some qeo:=rfl
theorem qpu:T.code qcj=some qeb:=rfl
theorem qjg:T.code qu=some qbj:=rfl
theorem qmz:T.code qax=some qd7:=rfl
theorem qlo:T.code qay=some qb9:=rfl
theorem q6e:T.code qhb=some qrz:=rfl
theorem qacz:T.code qp3=some qzy:=rfl
theorem qn5:T.code qbv=some qew:=rfl
theorem qw7:T.code qej=some qj7:=rfl
theorem qkf:T.code qaq=some qc1:=rfl
theorem qah8:T.code qkg=some qsx:=rfl
theorem code_shmem_New:T.code qpy=some q02:=rfl
theorem qaci:T.code qfg=some qnc:=rfl
theorem q9t:T.code qfd=some qk4:=rfl
theorem q76:T.code qes=some qka:=rfl
theorem q9s:T.code qe9=some qk5:=rfl
theorem qadt:T.code qg9=some qoa:=rfl
theorem q5z:T.code qhd=some qr3:=rfl
theorem q51:T.code qie=some qr7:=rfl
theorem quq:T.code qen=some qix:=rfl
theorem qly:T.code qad=some qds:=rfl
theorem qo2:T.code qb0=some qfa:=rfl
theorem q3p:T.code qdf=some qh3:=rfl
theorem qahb:T.code qi9=some qq2:=rfl
theorem qakt:T.code qm0=some qw2:=rfl
theorem qafv:T.code qgk=some qpd:=rfl
theorem qadw:T.code qg6=some qoh:=rfl
theorem qabt:T.code qf5=some qmk:=rfl
theorem q69:T.code qeg=some qju:=rfl
theorem qaj1:T.code qlt=some quw:=rfl
theorem qagh:T.code qi8=some qq7:=rfl
theorem qahm:T.code qi6=some qq8:=rfl
theorem qahz:T.code qir=some qsu:=rfl
theorem qti:T.code qcd=some qho:=rfl
theorem qss:T.code qcb=some qhy:=rfl
theorem qro:T.code qb4=some qhe:=rfl
theorem qtg:T.code qbx=some qgb:=rfl
theorem qrv:T.code qb5=some qfo:=rfl
theorem qt6:T.code qcm=some qgq:=rfl
theorem qtn:T.code qcf=some qd3:=rfl
theorem qt2:T.code qcq=some qh9:=rfl
theorem qlw:T.code qam=some qdu:=rfl
theorem qfl:T.code qr=some qbq:=rfl
theorem quh:T.code qaw=some qd1:=rfl
theorem qafs:T.code qhw=some qo9:=rfl
theorem qabc:T.code qez=some qmr:=rfl
theorem qab2:T.code qgt=some qnh:=rfl
theorem qabn:T.code qga=some qmn:=rfl
theorem qadp:T.code qfv=some qoc:=rfl
theorem qnz:T.code qn=some qbm:=rfl
theorem qafp:T.code qht=some qpp:=rfl
theorem qra:T.code qbf=some qfe:=rfl
theorem qtx:T.code qcp=some qia:=rfl
theorem qoy:T.code qbg=some qfc:=rfl
theorem qack:T.code qgu=some qna:=rfl
theorem q9v:T.code qe8=some qk7:=rfl
theorem qadx:T.code qg5=some qoe:=rfl
theorem qnk:T.code qas=some qed:=rfl
theorem qabv:T.code qf7=some qmd:=rfl
theorem qw9:T.ext qf9=none∧T.ins qf9=none:=⟨rfl,rfl⟩
theorem ext_top_head25:T.ext qme=none∧T.ins qme=none:=⟨rfl,rfl⟩
theorem qacg:T.ext qon=none∧T.ins qon=none:=⟨rfl,rfl⟩
theorem q99:T.ext qjd=none∧T.ins qjd=none:=⟨rfl,rfl⟩
theorem q0f:T.ext qdg=none∧T.ins qdg=none:=⟨rfl,rfl⟩
theorem ext_ladder_New:T.ext qmq=none∧T.ins qmq=none:=⟨rfl,rfl⟩
theorem q31:T.ext qiu=none∧T.ins qiu=none:=⟨rfl,rfl⟩
theorem q9y:T.ext qik=none∧T.ins qik=none:=⟨rfl,rfl⟩
theorem qaaq:T.ext qmj=none∧T.ins qmj=none:=⟨rfl,rfl⟩
theorem ext_parsim_Run:T.ext qop=none∧T.ins qop=none:=⟨rfl,rfl⟩
theorem ext_law19_Base:T.ext qmc=none∧T.ins qmc=none:=⟨rfl,rfl⟩
theorem qafz:T.ext qh2=none∧T.ins qh2=none:=⟨rfl,rfl⟩
theorem qah9:T.ext qi3=none∧T.ins qi3=none:=⟨rfl,rfl⟩
theorem qaf2:T.ext qhz=none∧T.ins qhz=none:=⟨rfl,rfl⟩
theorem q9i:T.ext qky=none∧T.ins qky=none:=⟨rfl,rfl⟩
theorem q57:T.ext qih=none∧T.ins qih=none:=⟨rfl,rfl⟩
theorem q55:T.ext qjx=none∧T.ins qjx=none:=⟨rfl,rfl⟩
theorem qv9:T.ext qek=none∧T.ins qek=none:=⟨rfl,rfl⟩
theorem qtp:T.ext qc6=none∧T.ins qc6=none:=⟨rfl,rfl⟩
theorem qim:T.ext qw=none∧T.ins qw=none:=⟨rfl,rfl⟩
theorem qws:T.ext qd=none∧T.ins qd=none:=⟨rfl,rfl⟩
theorem qo0:T.ext qa8=none∧T.ins qa8=none:=⟨rfl,rfl⟩
theorem q6g:T.ext qij=none∧T.ins qij=none:=⟨rfl,rfl⟩
theorem qaeq:T.ext qmy=none∧T.ins qmy=none:=⟨rfl,rfl⟩
theorem qq3:T.ext qac=none∧T.ins qac=none:=⟨rfl,rfl⟩
theorem qx7:T.ext qe=none∧T.ins qe=none:=⟨rfl,rfl⟩
theorem q9b:T.ext qjs=none∧T.ins qjs=none:=⟨rfl,rfl⟩
theorem qaau:T.ext ql7=none∧T.ins ql7=none:=⟨rfl,rfl⟩
theorem ext_parsim_run:T.ext qov=none∧T.ins qov=none:=⟨rfl,rfl⟩
theorem qkn:T.ext qj=none∧T.ins qj=none:=⟨rfl,rfl⟩
theorem qaf4:T.ext qh0=none∧T.ins qh0=none:=⟨rfl,rfl⟩
theorem q81:T.ext qkq=none∧T.ins qkq=none:=⟨rfl,rfl⟩
theorem q7p:T.ext qkt=none∧T.ins qkt=none:=⟨rfl,rfl⟩
theorem qvy:T.ext qdz=none∧T.ins qdz=none:=⟨rfl,rfl⟩
theorem qr8:T.ext qck=none∧T.ins qck=none:=⟨rfl,rfl⟩
theorem qta:T.ext qcu=none∧T.ins qcu=none:=⟨rfl,rfl⟩
theorem qu2:T.ext qdh=none∧T.ins qdh=none:=⟨rfl,rfl⟩
theorem qpz:T.ext qci=none∧T.ins qci=none:=⟨rfl,rfl⟩
theorem q3k:T.ext qe5=none∧T.ins qe5=none:=⟨rfl,rfl⟩
theorem q4s:T.ext qhi=none∧T.ins qhi=none:=⟨rfl,rfl⟩
theorem q28:T.ext qgw=none∧T.ins qgw=none:=⟨rfl,rfl⟩
theorem qsn:T.ext qdm=none∧T.ins qdm=none:=⟨rfl,rfl⟩
theorem qnf:T.ext qbc=none∧T.ins qbc=none:=⟨rfl,rfl⟩
theorem q8k:T.ext qje=none∧T.ins qje=none:=⟨rfl,rfl⟩
theorem q1y:T.ext qei=none∧T.ins qei=none:=⟨rfl,rfl⟩
theorem qy5:T.ext qfy=none∧T.ins qfy=none:=⟨rfl,rfl⟩
theorem q93:T.ext qjl=none∧T.ins qjl=none:=⟨rfl,rfl⟩
theorem qae4:T.ext qp6=none∧T.ins qp6=none:=⟨rfl,rfl⟩
theorem q6p:T.ext qj0=none∧T.ins qj0=none:=⟨rfl,rfl⟩
theorem qt4:T.ext qc7=none∧T.ins qc7=none:=⟨rfl,rfl⟩
theorem qom:T.ext qfb=none∧T.ins qfb=none:=⟨rfl,rfl⟩
theorem qum:T.ext qgx=none∧T.ins qgx=none:=⟨rfl,rfl⟩
theorem q0r:T.ext qar=none∧T.ins qar=none:=⟨rfl,rfl⟩
theorem qakw:T.ext qlr=none∧T.ins qlr=none:=⟨rfl,rfl⟩
theorem qakv:T.ext qls=none∧T.ins qls=none:=⟨rfl,rfl⟩
theorem qakx:T.ext qjz=none∧T.ins qjz=none:=⟨rfl,rfl⟩
theorem qaii:T.ext qi2=none∧T.ins qi2=none:=⟨rfl,rfl⟩
theorem qafe:T.ext qg7=none∧T.ins qg7=none:=⟨rfl,rfl⟩
theorem qlg:T.ext qaj=none∧T.ins qaj=none:=⟨rfl,rfl⟩
theorem qaf8:T.ext qin=none∧T.ins qin=none:=⟨rfl,rfl⟩
theorem q84:T.ext qk8=none∧T.ins qk8=none:=⟨rfl,rfl⟩
theorem q8f:T.ext qkv=none∧T.ins qkv=none:=⟨rfl,rfl⟩
theorem q4t:T.ext qex=none∧T.ins qex=none:=⟨rfl,rfl⟩
theorem q2y:T.ext qfq=none∧T.ins qfq=none:=⟨rfl,rfl⟩
theorem qwm:T.ext qel=none∧T.ins qel=none:=⟨rfl,rfl⟩
theorem qq5:T.ext qb7=none∧T.ins qb7=none:=⟨rfl,rfl⟩
theorem q3r:T.ext qip=none∧T.ins qip=none:=⟨rfl,rfl⟩
theorem qth:T.ext qdl=none∧T.ins qdl=none:=⟨rfl,rfl⟩
theorem qsz:T.ext qcx=none∧T.ins qcx=none:=⟨rfl,rfl⟩
theorem qt1:T.ext qd2=none∧T.ins qd2=none:=⟨rfl,rfl⟩
theorem qq9:T.ext qb8=none∧T.ins qb8=none:=⟨rfl,rfl⟩
theorem q7z:T.ext qjo=none∧T.ins qjo=none:=⟨rfl,rfl⟩
theorem qnt:T.ext qeh=none∧T.ins qeh=none:=⟨rfl,rfl⟩
theorem qre:T.ext qs=none∧T.ins qs=none:=⟨rfl,rfl⟩
theorem qoz:T.ext qbt=none∧T.ins qbt=none:=⟨rfl,rfl⟩
theorem qp8:T.ext qap=none∧T.ins qap=none:=⟨rfl,rfl⟩
theorem qvb:T.ext qcn=none∧T.ins qcn=none:=⟨rfl,rfl⟩
theorem qji:T.ext qaf=none∧T.ins qaf=none:=⟨rfl,rfl⟩
theorem qkp:T.ext qab=none∧T.ins qab=none:=⟨rfl,rfl⟩
theorem qey:T.ext qm=none∧T.ins qm=none:=⟨rfl,rfl⟩
theorem q98:T.ext qmg=none∧T.ins qmg=none:=⟨rfl,rfl⟩
theorem q38:T.ext qhg=none∧T.ins qhg=none:=⟨rfl,rfl⟩
theorem qtc:T.ext qdn=none∧T.ins qdn=none:=⟨rfl,rfl⟩
theorem q6q:T.ext qjw=none∧T.ins qjw=none:=⟨rfl,rfl⟩
theorem q2x:T.ext qml=none∧T.ins qml=none:=⟨rfl,rfl⟩
theorem qwf:T.ext qgj=none∧T.ins qgj=none:=⟨rfl,rfl⟩
theorem q4w:T.ext qit=none∧T.ins qit=none:=⟨rfl,rfl⟩
theorem q4a:T.ext qhh=none∧T.ins qhh=none:=⟨rfl,rfl⟩
theorem q0i:T.ext qdi=none∧T.ins qdi=none:=⟨rfl,rfl⟩
theorem qnb:T.ext qbb=none∧T.ins qbb=none:=⟨rfl,rfl⟩
theorem qm9:T.ext qbd=none∧T.ins qbd=none:=⟨rfl,rfl⟩
theorem q6l:T.ext qjv=none∧T.ins qjv=none:=⟨rfl,rfl⟩
theorem q2a:T.ext qcl=none∧T.ins qcl=none:=⟨rfl,rfl⟩
theorem qaic:T.ext qh7=none∧T.ins qh7=none:=⟨rfl,rfl⟩
theorem qadn:T.ext qf2=none∧T.ins qf2=none:=⟨rfl,rfl⟩
theorem qaji:T.ext qke=none∧T.ins qke=none:=⟨rfl,rfl⟩
theorem qai4:T.ext qkl=none∧T.ins qkl=none:=⟨rfl,rfl⟩
theorem qae3:T.ext qfx=none∧T.ins qfx=none:=⟨rfl,rfl⟩
theorem qait:T.ext qja=none∧T.ins qja=none:=⟨rfl,rfl⟩
theorem qais:T.ext qi5=none∧T.ins qi5=none:=⟨rfl,rfl⟩
theorem qaa5:T.ext qfj=none∧T.ins qfj=none:=⟨rfl,rfl⟩
theorem q3q:T.ext qc5=none∧T.ins qc5=none:=⟨rfl,rfl⟩
theorem qajt:T.ext qkb=none∧T.ins qkb=none:=⟨rfl,rfl⟩
theorem q9c:T.ext qkz=none∧T.ins qkz=none:=⟨rfl,rfl⟩
theorem q2i:T.ext qh4=none∧T.ins qh4=none:=⟨rfl,rfl⟩
theorem q2h:T.ext qa3=none∧T.ins qa3=none:=⟨rfl,rfl⟩
theorem qwo:T.ext qag=none∧T.ins qag=none:=⟨rfl,rfl⟩
theorem qr4:T.ext qq=none∧T.ins qq=none:=⟨rfl,rfl⟩
theorem qt0:T.ext qv=none∧T.ins qv=none:=⟨rfl,rfl⟩
theorem qur:T.ext qy=none∧T.ins qy=none:=⟨rfl,rfl⟩
theorem qm6:T.ext qaa=none∧T.ins qaa=none:=⟨rfl,rfl⟩
theorem qq0:T.ext qcr=none∧T.ins qcr=none:=⟨rfl,rfl⟩
theorem qqf:T.ext qcj=none∧T.ins qcj=none:=⟨rfl,rfl⟩
theorem qjt:T.ext qu=none∧T.ins qu=none:=⟨rfl,rfl⟩
theorem qnj:T.ext qax=none∧T.ins qax=none:=⟨rfl,rfl⟩
theorem qlx:T.ext qay=none∧T.ins qay=none:=⟨rfl,rfl⟩
theorem q8w:T.ext qhb=none∧T.ins qhb=none:=⟨rfl,rfl⟩
theorem qafu:T.ext qp3=none∧T.ins qp3=none:=⟨rfl,rfl⟩
theorem qox:T.ext qbv=none∧T.ins qbv=none:=⟨rfl,rfl⟩
theorem qx3:T.ext qej=none∧T.ins qej=none:=⟨rfl,rfl⟩
theorem qkm:T.ext qaq=none∧T.ins qaq=none:=⟨rfl,rfl⟩
theorem qajs:T.ext qkg=none∧T.ins qkg=none:=⟨rfl,rfl⟩
theorem ext_shmem_New:T.ext qpy=none∧T.ins qpy=none:=⟨rfl,rfl⟩
theorem qado:T.ext qfg=none∧T.ins qfg=none:=⟨rfl,rfl⟩
theorem qaas:T.ext qfd=none∧T.ins qfd=none:=⟨rfl,rfl⟩
theorem q9u:T.ext qes=none∧T.ins qes=none:=⟨rfl,rfl⟩
theorem q9w:T.ext qe9=none∧T.ins qe9=none:=⟨rfl,rfl⟩
theorem qafo:T.ext qg9=none∧T.ins qg9=none:=⟨rfl,rfl⟩
theorem q78:T.ext qhd=none∧T.ins qhd=none:=⟨rfl,rfl⟩
theorem q86:T.ext qie=none∧T.ins qie=none:=⟨rfl,rfl⟩
theorem qvw:T.ext qen=none∧T.ins qen=none:=⟨rfl,rfl⟩
theorem ql5:T.ext qad=none∧T.ins qad=none:=⟨rfl,rfl⟩
theorem qpj:T.ext qb0=none∧T.ins qb0=none:=⟨rfl,rfl⟩
theorem q4n:T.ext qdf=none∧T.ins qdf=none:=⟨rfl,rfl⟩
theorem qah6:T.ext qi9=none∧T.ins qi9=none:=⟨rfl,rfl⟩
theorem qak4:T.ext qm0=none∧T.ins qm0=none:=⟨rfl,rfl⟩
theorem qaf6:T.ext qgk=none∧T.ins qgk=none:=⟨rfl,rfl⟩
theorem qad8:T.ext qg6=none∧T.ins qg6=none:=⟨rfl,rfl⟩
theorem qacq:T.ext qf5=none∧T.ins qf5=none:=⟨rfl,rfl⟩
theorem q8b:T.ext qeg=none∧T.ins qeg=none:=⟨rfl,rfl⟩
theorem qaku:T.ext qlt=none∧T.ins qlt=none:=⟨rfl,rfl⟩
theorem qah3:T.ext qi8=none∧T.ins qi8=none:=⟨rfl,rfl⟩
theorem qaio:T.ext qi6=none∧T.ins qi6=none:=⟨rfl,rfl⟩
theorem qakg:T.ext qir=none∧T.ins qir=none:=⟨rfl,rfl⟩
theorem qt7:T.ext qcd=none∧T.ins qcd=none:=⟨rfl,rfl⟩
theorem qtt:T.ext qcb=none∧T.ins qcb=none:=⟨rfl,rfl⟩
theorem qsq:T.ext qb4=none∧T.ins qb4=none:=⟨rfl,rfl⟩
theorem qt8:T.ext qbx=none∧T.ins qbx=none:=⟨rfl,rfl⟩
theorem qsy:T.ext qb5=none∧T.ins qb5=none:=⟨rfl,rfl⟩
theorem qvg:T.ext qcm=none∧T.ins qcm=none:=⟨rfl,rfl⟩
theorem qtv:T.ext qcf=none∧T.ins qcf=none:=⟨rfl,rfl⟩
theorem quu:T.ext qcq=none∧T.ins qcq=none:=⟨rfl,rfl⟩
theorem ql6:T.ext qam=none∧T.ins qam=none:=⟨rfl,rfl⟩
theorem qfw:T.ext qr=none∧T.ins qr=none:=⟨rfl,rfl⟩
theorem qvm:T.ext qaw=none∧T.ins qaw=none:=⟨rfl,rfl⟩
theorem qaf5:T.ext qhw=none∧T.ins qhw=none:=⟨rfl,rfl⟩
theorem qac3:T.ext qez=none∧T.ins qez=none:=⟨rfl,rfl⟩
theorem qady:T.ext qgt=none∧T.ins qgt=none:=⟨rfl,rfl⟩
theorem qab6:T.ext qga=none∧T.ins qga=none:=⟨rfl,rfl⟩
theorem qafm:T.ext qfv=none∧T.ins qfv=none:=⟨rfl,rfl⟩
theorem qn3:T.ext qn=none∧T.ins qn=none:=⟨rfl,rfl⟩
theorem qaf3:T.ext qht=none∧T.ins qht=none:=⟨rfl,rfl⟩
theorem qru:T.ext qbf=none∧T.ins qbf=none:=⟨rfl,rfl⟩
theorem qva:T.ext qcp=none∧T.ins qcp=none:=⟨rfl,rfl⟩
theorem qpg:T.ext qbg=none∧T.ins qbg=none:=⟨rfl,rfl⟩
theorem qadu:T.ext qgu=none∧T.ins qgu=none:=⟨rfl,rfl⟩
theorem qaap:T.ext qe8=none∧T.ins qe8=none:=⟨rfl,rfl⟩
theorem qaeb:T.ext qg5=none∧T.ins qg5=none:=⟨rfl,rfl⟩
theorem qnn:T.ext qas=none∧T.ins qas=none:=⟨rfl,rfl⟩
theorem qadf:T.ext qf7=none∧T.ins qf7=none:=⟨rfl,rfl⟩
theorem qk0:T.ext qat=some (qqp 6 64):=rfl
theorem qob:T.ext qau=some (qqp 4 48):=rfl
theorem qn7:T.ext qa6=some (qqp 3 24):=rfl
theorem qne:T.ext qc2=some (qqp 1 24):=rfl
theorem qwj:T.ext qa2=some (qqp 1 24):=rfl
theorem q4e:T.ext qft=some (qqp 4 48):=rfl
theorem qvd:T.ext qgr=some (qqp 1 8):=rfl
theorem qok:T.ext qdj=some (qqp 4 48):=rfl
theorem q0m:T.ins qda=some (3,24):=rfl
theorem qwp:T.ins qbs=some (6,64):=rfl
theorem q0a:T.ext qda=none:=rfl
theorem qv0:T.ext qbs=none:=rfl
def qgg (n:Int):List AV:=[(ii n)]
theorem int_lo (n:Nat) (x:Int):los n (qgg x)=true:=rfl
theorem int_pl (x:Int):(qgg x).length=1∧qfk (qgg x)=true:=⟨rfl,rfl⟩
theorem qcs (n:Nat) (l:List Int):qk9 n (l.map qgg)=true:=qk2 (int_lo n) l
theorem ints_ok (l:List Int):qdk 1 (l.map qgg)=true:=qp1 int_pl l
def qnv (l:List Int):List AV:=[(.fsl ((l).map qgg) false)]
theorem key_lo (n:Nat) (l:List Int):los n (qnv l)=true:=by simp only[qnv,los,AV.lo,qcs,zfc]
theorem qfz (n:Nat) (l:List (List Int)):qk9 n (l.map qnv)=true:=qk2 (key_lo n) l
structure OpI where
 code:Int
 a:Int
 b:Int
 c:Int
 deriving DecidableEq
def OpI.r (x:OpI):List AV:=[(ii x.code),(ii x.a),(ii x.b),(ii x.c)]
theorem op_lo (n:Nat) (x:OpI):los n x.r=true:=rfl
theorem qh6 (n:Nat) (l:List OpI):qk9 n (l.map OpI.r)=true:=qk2 (op_lo n) l
def qbu (p:List OpI):List AV:=[(.fsl ((p).map OpI.r) false)]
theorem progC_lo (n:Nat) (l:List OpI):los n (qbu l)=true:=by simp only[qbu,los,AV.lo,qh6,zfc]
theorem qa7 (n:Nat) (l:List (List OpI)):qk9 n (l.map qbu)=true:=qk2 (progC_lo n) l
structure Start where
 prog:Int
 time:Int
 deriving DecidableEq
def Start.r (x:Start):List AV:=[(ii x.prog),(ii x.time)]
theorem start_lo (n:Nat) (x:Start):los n x.r=true:=rfl
theorem qte (n:Nat) (l:List Start):qk9 n (l.map Start.r)=true:=qk2 (start_lo n) l
def lpC (p:List Start):List AV:=[(.fsl ((p).map Start.r) false)]
theorem lpC_lo (n:Nat) (l:List Start):los n (lpC l)=true:=by simp only[lpC,los,AV.lo,qte,zfc]
theorem qc8 (n:Nat) (l:List (List Start)):qk9 n (l.map lpC)=true:=qk2 (lpC_lo n) l
structure Cfg where
 lps:List (List Start)
 progs:List (List OpI)
 look:Int
 fin:Int
 cap:Int
structure Item where
 time:Int
 seq:Int
 slot:Int
 deriving DecidableEq
def Item.key (_:Item):List Int:=[]
def Item.c (x:Item):List AV:=[(ii x.time),(ii x.seq),(ii x.slot)]
def qco (l:List Item):List AV:=[(.fsl ((l).map Item.c) false)]
theorem Item.lo (n:Nat) (x:Item):los n x.c=true:=rfl
theorem Item.pl (x:Item):x.c.length=3∧qfk x.c=true:=⟨rfl,rfl⟩
theorem qa0 (n:Nat) (l:List Item):qk9 n (l.map Item.c)=true:=qk2 (Item.lo n) l
theorem qanj (n:Nat) (l:List Item):los n (qco l)=true:=by simp only[qco,los,AV.lo,qa0,zfc]
theorem qef (n:Nat) (l:List (List Item)):qk9 n (l.map qco)=true:=qk2 (qanj n) l
theorem q26 (l:List Item):qdk 3 (l.map Item.c)=true:=qp1 Item.pl l
theorem qami (l:List Item):(qco l).length=1∧qfk (qco l)=true:=⟨rfl,rfl⟩
theorem qakl (l:List (List Item)):qdk 1 (l.map qco)=true:=qp1 qami l
def qul (f w i:Int):Int:=w64 (f+w64 (i*w))
theorem q7m (a b c:Int):qaz (evL T) qjw [(ii a),(ii b),(ii c)]=some (ii (qul a b c)):=by
 rw[qaz,qg q6q q3w]
 simp only[qqo,wg,ql,zgy,↓qc,↓we,wf,wc,wd,qul]
theorem q7r (a b c:Int) (h:b≠0):qaz (evL T) qj0 [(ii a),(ii b),(ii c)]=some (ii (w64 (Int.tdiv (w64 (c-a)) b))):=by
 rw[qaz,qg q6p q4d]
 simp only[qqi,h,wg,ql,zgy,↓qc,↓we,wf,wc,wd]
section
variable (f w c:Int) (bs:List (List Item))
theorem qxk (i:Int):qaz (evL T) qjl [(.agg [(ii f),(ii w),(ii c),(.fsl ((bs).map qco) false)]),(ii i)]=some (ii (qul f w i)):=by
 rw[qaz,qg q93 q9q]
 simp only[quf,q7m,wg,qb,wj,wk,ql,ne_eq,zgy,↓qc,↓we,wf,wc,wd]
theorem q7l:qaz (evL T) qij [(.agg [(ii f),(ii w),(ii c),(.fsl ((bs).map qco) false)])]=some (ii (qul f w c)):=by
 rw[qaz,qg q6g q4x]
 simp only[qqn,qxk,qef,wg,qb,wj,wk,ql,ne_eq,zgy,↓qc,↓we,wf,wc]
theorem qags:qaz (evL T) qp6 [(.agg [(ii f),(ii w),(ii c),(.fsl ((bs).map qco) false)])]=some (ii (qul f w 8)):=by
 rw[qaz,qg qae4 qacc]
 simp only[qz1,qxk,qef,wg,qb,wj,wk,ql,ne_eq,zgy,↓qc,↓we,wf,wc]
theorem q8t:qaz (evL T) qp3 [(ii f),(ii w)]=some (.agg [(ii f),(ii w),(ii 0),(.fsl ((List.replicate 8 []).map qco) false)]):=by
 rw[qaz,qg qafu qacz]
 simp only[qzy,wg,Ev.stP,qb,wj,Ev.AV.uc,wk,ql,ne_eq,zgy,↓qc,↓we,wf,wc,Nat.reduceLT,wB,Int.reduceLE,Int.reduceMul,Int.reducePow,Int.reduceToNat,wd]
 rfl
end
theorem q0l (xs:List Item) (c:Bool):qaz (evL T) qa8 [(.fsl ((xs).map Item.c) c)]=some (.fsl ((xs).map Item.c) true):=by
 rw[qaz,qg qo0 qof]
 simp only[qev,qa0,q26,zgs,zgr,Int.le_refl,Nat.sub_zero,Int.toNat_zero,wg,ql,zgy,forall_const,↓qc,↓we,wc,wd]
theorem q9l (bs:List (List Item)) (c:Bool) (h:bs.length*24≤2^47):(evL T).call qc2 [(.fsl ((bs).map qco) c)] []=some (.sl 0 0 0 bs.length false,[.row 1 (bs.map qco) 0]):=by
 have h':bs.length*24≤140737488355328:=by simpa using h
 rw[q4g qne]
 simp only[qqp,qef,qakl,h',wg,zgy,↓we,Nat.reducePow]
theorem qy0 (bs:List (List Item)) (c:Bool) (i:Nat) (xs b:List Item) (d:Bool) (hb:bs[i]? = some b) (h:bs.length*24≤2^47) :
  qaz (evL T) qc7 [(.fsl ((bs).map qco) c),(ii ((i:Int))),(.fsl ((xs).map Item.c) d)]=some (.fsl ((bs.set i xs).map qco) false):=by
 have hi:=(zei.1 hb).1
 have hset:(bs.map qco).set i [(.fsl ((xs).map Item.c) false)]=(bs.set i xs).map qco:=by rw[wv];rfl
 have htk:((bs.set i xs).map qco).take bs.length=(bs.set i xs).map qco:=ztl (by simp)
 rw[qaz,qg qt4 qs9]
 simp only[qhu,q9l bs c h,qef,zgs,zgr,zgq,hb,zgt,hi,hset,qco,wg,Ev.stP,q2m,wj,Ev.AV.uc,wk,ql,zgy,↓qc,↓we,wf,wc,Nat.reduceLT,wd,htk]
theorem q0z (b:List Item) (c:Bool):(evL T).call qhb [(.fsl ((b).map Item.c) c)] []=some ((bb (decide (0<(b.length:Int)))),[]):=by
 rw[qg q8w q6e]
 simp only[qrz,wg,ql,zgy,↓qc,↓we,wd,gt_iff_lt]
def qhl:List (List Item)→Option Nat
 | []=>none
 | []::bs=>(qhl bs).map (· + 1)
 |(_ :: _) :: _=>some 0
theorem qaa7 : ∀ {bs:List (List Item)} {k:Nat} {b:List Item},(∀x∈bs.take k,x=[])→bs[k]? = some b→b ≠ []→qhl bs=some k
 | [],k,b,_,h,_=>by simp at h
 |x::bs,0,b,_,h,hb=>by
  simp at h;subst h
  cases x with
  |nil=>exact absurd rfl hb
  |cons y ys=>rfl
 |x::bs,k+1,b,h0,h,hb=>by
  have hx:x=[]:=h0 x (by simp)
  subst hx
  simp only[qhl,qaa7 (bs:=bs) (k:=k) (b:=b) (fun y hy=>h0 y (by simp[hy])) (by simpa using h) hb,zgt]
theorem q5p : ∀ {bs:List (List Item)},(∀x∈bs,x=[])→qhl bs=none
 | [],_=>rfl
 |x::bs,h=>by
  have hx:x=[]:=h x (by simp)
  subst hx
  simp only[qhl,q5p (bs:=bs) (fun y hy=>h y (by simp[hy])),Option.map_none]
theorem qzg : ∀ {bs:List (List Item)} {k:Nat},qhl bs=some k→(∀x∈bs.take k,x=[]) ∧ ∃b,bs[k]? = some b∧b ≠ []
 | [],k,h=>by cases h
 |(x::xs)::bs,k,h=>by
  simp only[qhl]at h;cases h
  exact⟨by simp,x::xs,by simp,by simp⟩
 | []::bs,k,h=>by
  simp only[qhl,Option.map_eq_some_iff]at h
  obtain⟨j,h1,rfl⟩:=h
  obtain⟨h2,b,h3,h4⟩:=qzg h1
  exact⟨by intro x hx;simp at hx;rcases hx with rfl|hx;rfl;exact h2 x hx,b,by simpa using h3,h4⟩
def qad5 (bs:List (List Item)):Int:=match qhl bs with
 |some k=>k
 |none => -1
theorem qakr (bs:List (List Item)) (c:Bool) (hb:bs.length<2^62) :
  ∃y,itB (exec (evL T) itL none qa4) (qao [0,1,7,8] true 0) ⟨[(0,(.fsl ((bs).map qco) c)),(1,(.fn (.func qhb) [] [])),(7,(ii bs.length)),(8,(ii 0))],[]⟩ []=some y∧y.2.2=[]∧y.2.1.marks=[] ∧
   ((∃k:Nat,qhl bs=some k∧y.1 = .ret∧wh y.2.1.vars 4=some (ii k))∨(qhl bs=none∧y.1 = .exit 0)):=by
 have:=qh5 (f:=exec (evL T) itL none qa4) (s:=qao [0,1,7,8] true 0) (α:=Unit) (fun i _=>⟨[(0,(.fsl ((bs).map qco) c)),(1,(.fn (.func qhb) [] [])),(7,(ii bs.length)),(8,(ii ((i:Int))))],[]⟩) (fun _ _=>[])
  (fun i _ => ∀x∈bs.take i,x=[]) bs.length (fun y=>y.2.2=[]∧y.2.1.marks=[] ∧
   ((∃k:Nat,qhl bs=some k∧y.1 = .ret∧wh y.2.1.vars 4=some (ii k))∨(qhl bs=none∧y.1 = .exit 0))) ?_ ?_ 0 () (Nat.zero_le _) (by simp)
 ·exact this
 ·intro i _ hi hp
  obtain⟨b,hb'⟩ : ∃b,bs[i]? = some b:=⟨_,zgE hi⟩
  have hi':(i:Int)<(bs.length:Int):=by omega
  have hw:IntKind.i64.wrap ((i:Int)+1)=(i:Int)+1:=qk (by omega) (by omega)
  by_cases hbl:0<(b.length:Int)
  ·right
   have hbne:b ≠ []:=by rintro rfl;simp at hbl
   simp only[qa4,wg,qb,zgy,↓qc,↓we,wc,wd,zgs,zgr,zgq,hb',zgt,hi',qco,q0z,hbl]
   exact⟨_,rfl,rfl,rfl,.inl ⟨i,qaa7 hp hb' hbne,rfl,rfl⟩⟩
  ·left
   have hbe:b=[]:=wm (by omega)
   refine⟨(),?_,?_⟩
   ·simp only[qa4,wg,qb,zgy,↓qc,↓we,wc,wd,zgs,zgr,zgq,hb',zgt,hi',hw,qco,q0z,hbl,qef]
    rfl
   ·intro x hx
    rw[qf6 hb']at hx
    rcases wo.1 hx with hx|hx
    ·exact hp x hx
    ·simp at hx;rw[hx,hbe]
 ·intro _ hp
  simp only[qa4,wg,zgy,↓qc,↓we,wc,wd,ww]
  rw[wH]at hp
  exact⟨_,rfl,rfl,rfl,.inr ⟨q5p hp,rfl⟩⟩
theorem qs2 (bs:List (List Item)) (c:Bool) (hb:bs.length<2^62) :
  qaz (evL T) qay [(.fsl ((bs).map qco) c),(.fn (.func qhb) [] [])]=some (ii (qad5 bs)):=by
 rw[qaz,qg qlx qlo]
 obtain⟨⟨y,e,σ⟩,h1,h2,h3,h4⟩:=qakr bs c hb
 simp only at h2 h3 h4
 subst h2
 rcases h4 with ⟨k,h4,h5,h6⟩|⟨h4,h5⟩
 ·subst h5
  simp only[qb9,qad5,h4,h1,h3,h6,qef,wg,ql,zgy,↓qc,↓qx,↓we,wf,wc,wt,wd]
 ·subst h5
  simp only[qb9,qad5,h4,h1,h3,qef,wg,ql,zgy,↓qc,↓qx,↓we,wf,wc,wt,wd]
section
variable (f w c:Int) (bs:List (List Item))
theorem qaao (hb:bs.length<2^62) (h:qhl bs=none):qaz (evL T) qml [(.agg [(ii f),(ii w),(ii c),(.fsl ((bs).map qco) false)])]=some (.tup [(.agg [(ii f),(ii w),(ii 8),(.fsl ((bs).map qco) false)]),.fsl [] true,(ii 0),(bb false)]):=by
 rw[qaz,qg q2x q0o]
 simp only[qsm,qs2 bs _ hb,qad5,h,qef,wg,Ev.stP,qb,wj,Ev.AV.uc,wk,ql,ne_eq,zgy,↓qc,↓we,wf,wc,wB,Int.reduceLT,wt]
theorem q0v (hb:bs.length*24≤2^47) {k:Nat} {b:List Item} (h:qhl bs=some k) (hk:bs[k]? = some b) :
  qaz (evL T) qml [(.agg [(ii f),(ii w),(ii c),(.fsl ((bs).map qco) false)])]=some (.tup [(.agg [(ii f),(ii w),(ii ((k:Int)+1)),(.fsl ((bs.set k []).map qco) false)]),(.fsl ((b).map Item.c) false),(ii (qul f w k)),(bb true)]):=by
 have hlt:=(zei.1 hk).1
 have hw:IntKind.i64.wrap ((k:Int)+1)=(k:Int)+1:=qk (by omega) (by omega)
 have hneg:¬(k:Int)<0:=by omega
 have hr:=qy0 bs false k [] b true hk hb
 simp only[List.map_nil]at hr
 rw[qaz,qg q2x q0o]
 simp only[qsm,qs2 bs _ (by omega),qad5,h,qef,qa0,hneg,zgs,zgr,zgq,hk,zgt,qco,hr,qxk,hw,wg,Ev.stP,qb,wj,Ev.AV.uc,wk,ql,ne_eq,zgy,↓qc,↓we,wf,wc,wB]
theorem qafj (x:Item) (h1:¬x.time<qul f w c) (h2:¬qul f w 8≤x.time) (hw:w≠0) {k:Nat} (hk:w64 (Int.tdiv (w64 (x.time-f)) w)=k) {b:List Item} (hb:bs[k]? = some b)
  (hbs:bs.length*24≤2^47) (hbl:(b.length+1)*24≤2^47) :
  qaz (evL T) qmy [(.agg [(ii f),(ii w),(ii c),(.fsl ((bs).map qco) false)]),(.agg [(ii x.time),(ii x.seq),(ii x.slot)])]=some (.tup [(.agg [(ii f),(ii w),(ii c),(.fsl ((bs.set k (b++[x])).map qco) false)]),(bb true)]):=by
 have h2':¬x.time≥qul f w 8:=h2
 have hbl':(b.length+1)*24≤140737488355328:=by simpa using hbl
 have happ:b.map Item.c++[[(ii x.time),(ii x.seq),(ii x.slot)]]=(b++[x]).map Item.c:=by simp[Item.c]
 have hok:qdk 3 ((b++[x]).map Item.c)=true:=q26 _
 have hlo:qk9 0 ((b++[x]).map Item.c)=true:=qa0 0 _
 have hlen:(b++[x]).length=b.length+1:=by simp
 have htk:=q5d (b++[x]) Item.c
 rw[hlen]at htk
 have hr:=qy0 bs false k (b++[x]) b false hb hbs
 rw[qaz,qg qaeq qadg]
 simp only[qzk,q7l,qags,h1,h2',q7r _ _ _ hw,hk,qef,qa0,zgs,zgr,zgq,hb,zgt,qco,q0l,happ,hok,hlo,hbl',hr,wg,Ev.stP,qb,qdr,wj,Ev.AV.uc,wk,ql,ne_eq,zgy,↓qc,↓we,wf,wc,Nat.reduceMul,Nat.reduceLT,wB,Nat.reducePow,wd]
end
def qxs (n:Int):Bool:=decide (n≥1)&&decide (n≤1099511627776)
def q2e (n:Int):Bool:=decide (n ≥ -1073741824)&&decide (n≤1073741824)
theorem qqk (n:Int):qaz (evL T) qhd [(ii n)]=some (bb (qxs n)):=by
 rw[qaz,qg q78 q5z]
 by_cases h1:n≥1<;>simp only[qxs,qr3,h1,wg,ql,zgy,↓qc,↓we,wc,wd]
theorem qu1 (n:Int):qaz (evL T) qie [(ii n)]=some (bb (q2e n)):=by
 rw[qaz,qg q86 q51]
 by_cases h1:n ≥ -1073741824<;>simp only[q2e,qr7,h1,wg,ql,zgy,↓qc,↓we,wc,wt,wd]
def q1s (x:OpI) (n ps:Int):Bool:=
 if x.code=1 then qxs x.a&&(decide (x.b=0)&&decide (x.c=0))
 else if x.code=2 then decide (x.a≥0)&&(q2e x.b&&qxs x.c)
 else if x.code=3 then qxs x.a&&(decide (x.b≥0)&&(decide (x.b<n)&&decide (x.c=0)))
 else if x.code=5 then decide (x.a≥0)&&(decide (x.a<ps)&&(qxs x.b&&decide (x.c=0)))
 else if x.code=6 then decide (x.a≥0)&&(decide (x.a<2)&&(q2e x.b&&decide (x.c=0)))
 else if x.code=7 then decide (x.a≥0)&&(decide (x.a<2)&&(q2e x.b&&(decide (x.c≥0)&&decide (x.c<n))))
 else decide (x.a=0)&&(decide (x.b=0)&&decide (x.c=0))
theorem qv2 (x:OpI) (n ps:Int):qaz (evL T) qh4 [(.agg [(ii x.code),(ii x.a),(ii x.b),(ii x.c)]),(ii n),(ii ps)]=some (bb (q1s x n ps)):=by
 obtain⟨k,a,b,c⟩:=x
 rw[qaz,qg q2i q05]
 simp only[q1s]
 by_cases k1:k=1
 ·subst k1
  cases h1:qxs a<;>by_cases h2:b=0<;>simp only[qe4,qqk,h1,h2,wg,qb,wj,wk,ql,ne_eq,zgy,↓qc,↓we,wf,wc]
 by_cases k2:k=2
 ·subst k2
  by_cases h1:a≥0<;>cases h2:q2e b<;>simp only[qe4,qqk,qu1,h1,h2,wg,qb,wj,wk,ql,ne_eq,zgy,↓qc,↓we,wf,wc,Int.reduceEq]
 by_cases k3:k=3
 ·subst k3
  cases h1:qxs a<;>by_cases h2:b≥0<;>by_cases h3:b<n<;>simp only[qe4,qqk,h1,h2,h3,wg,qb,wj,wk,ql,ne_eq,zgy,↓qc,↓we,wf,wc,Int.reduceEq,wd]
 by_cases k5:k=5
 ·subst k5
  by_cases h1:a≥0<;>by_cases h2:a<ps<;>cases h3:qxs b<;>simp only[qe4,qqk,h1,h2,h3,wg,qb,wj,wk,ql,ne_eq,zgy,↓qc,↓we,wf,wc,Int.reduceEq,wd]
 by_cases k6:k=6
 ·subst k6
  by_cases h1:a≥0<;>by_cases h2:a<2<;>cases h3:q2e b<;>simp only[qe4,qu1,h1,h2,h3,wg,qb,wj,wk,ql,ne_eq,zgy,↓qc,↓we,wf,wc,Int.reduceEq]
 by_cases k7:k=7
 ·subst k7
  by_cases h1:a≥0<;>by_cases h2:a<2<;>cases h3:q2e b<;>by_cases h4:c≥0<;>simp only[qe4,qu1,h1,h2,h3,h4,wg,qb,wj,wk,ql,ne_eq,zgy,↓qc,↓we,wf,wc,Int.reduceEq,wd]
 by_cases h1:a=0<;>by_cases h2:b=0<;>simp only[qe4,k1,k2,k3,k5,k6,k7,h1,h2,wg,qb,wj,wk,ql,ne_eq,zgy,↓qc,↓we,wf,wc]
def q6c (x:OpI):Bool:=decide (x.code≥1)&&decide (x.code≤8)
def qxr (p:List OpI):Bool:=decide (1≤p.length∧p.length≤16)&&p.all q6c
def qagc (lps:Int) (x:OpI):Bool:=!(decide (x.code=2)&&decide (x.a≥lps))
def qs0 (look:Int) (x:OpI):Bool:=!(decide (x.code=2)&&decide (x.c<look))
def qrn (p:List OpI) (ps lps look:Int):Int:=
 if qxr p=false then 22 else if p.all (fun x=>q1s x p.length ps)=false then 22 else if p.all (qagc lps)=false then 23 else if p.all (qs0 look)=false then 21 else 0
section
variable (p:List OpI) (c:Bool) (ps lps look:Int)
theorem qacw (hl:p.length≤16) :
  ∃y,itB (exec (evL T) itL none qi7) (qao [0,3] true 0) ⟨[(0,(.fsl ((p).map OpI.r) c)),(3,(ii 0))],[]⟩ []=some y∧(p.all q6c=true∧(y.1 = .exit 0∧y.2.1.marks=[]∧y.2.2=[]) ∨
   p.all q6c=false ∧ ∃x,p.find? (fun x => !q6c x)=some x∧(y.1 = .ret∧y.2.1.marks=[]∧y.2.2=[]∧wh y.2.1.vars 2=some (bb false))):=by
 refine qib p (fun i=>⟨[(0,(.fsl ((p).map OpI.r) c)),(3,(ii i))],[]⟩) [] q6c _ (fun _ y => _) ?_ ?_ ?_
 ·intro i x hi hx hp
  have hi':(i:Int)<(p.length:Int):=by omega
  have hw:IntKind.i64.wrap ((i:Int)+1)=((i+1:Nat):Int):=by rw[qk (by omega) (by omega)];simp
  simp only[q6c,Bool.and_eq_true,decide_eq_true_eq]at hp
  have h1:¬x.code<1:=by omega
  have h2:¬x.code>8:=by omega
  simp only[qi7,zgs,zgr,zgq,zgt,OpI.r,hx,hi',hw,h1,h2,qh6,wg,qb,zgy,↓qc,↓we,wf,wc,wd]
 ·intro i x hi hx hp
  have hi':(i:Int)<(p.length:Int):=by omega
  simp only[q6c,Bool.and_eq_false_iff,decide_eq_false_iff_not]at hp
  by_cases h1:x.code<1
  ·simp only[qi7,zgs,zgr,zgq,zgt,OpI.r,hx,hi',h1,wg,qb,zgy,↓qc,↓we,wf,wc,wd]
   exact⟨_,rfl,rfl,rfl,rfl,rfl⟩
  ·have h2:x.code>8:=by omega
   simp only[qi7,zgs,zgr,zgq,zgt,OpI.r,hx,hi',h1,h2,wg,qb,zgy,↓qc,↓we,wf,wc,wd]
   exact⟨_,rfl,rfl,rfl,rfl,rfl⟩
 ·simp only[qi7,ww,wg,zgy,↓qc,↓we,wc,wd]
  exact⟨_,rfl,rfl,rfl,rfl⟩
theorem q91:qaz (evL T) qkz [(.fsl ((p).map OpI.r) c)]=some (bb (qxr p)):=by
 rw[qaz,qg q9c q6h]
 by_cases h1:(p.length:Int)<1
 ·have:¬(1≤p.length∧p.length≤16):=by omega
  simp only[qk6,qxr,this,h1,wg,ql,zgy,↓qc,↓we,wc,wd]
 by_cases h2:(p.length:Int)>16
 ·have:¬(1≤p.length∧p.length≤16):=by omega
  simp only[qk6,qxr,this,h1,h2,wg,ql,zgy,↓qc,↓we,wc,wd]
 have h3:1≤p.length∧p.length≤16:=by omega
 obtain⟨⟨y,e,σ⟩,k1,k2⟩:=qacw p c h3.2
 simp only at k2
 rcases k2 with ⟨k3,rfl,k4,rfl⟩|⟨k3,x,_,rfl,k4,rfl,k5⟩
 ·simp only[qk6,qxr,h3,h1,h2,k1,k3,k4,qh6,wg,ql,zgy,↓qc,↓qx,↓we,wc,wd]
 ·simp only[qk6,qxr,h3,h1,h2,k1,k3,k4,k5,qh6,wg,ql,zgy,↓qc,↓qx,↓we,wc,wd]
theorem q96 (hl:p.length≤16) :
  ∃y,itB (exec (evL T) itL none qlk) (qao [0,1,2,3,9] true 0) ⟨[(0,(.fsl ((p).map OpI.r) c)),(1,(ii ps)),(2,(ii lps)),(3,(ii look)),(9,(ii 0))],[]⟩ []=some y ∧
   (p.all (fun x=>q1s x p.length ps)=true∧(y.1 = .exit 0∧y.2.1.marks=[]∧y.2.2=[]∧wh y.2.1.vars 0=some (.fsl ((p).map OpI.r) c)∧wh y.2.1.vars 2=some (ii lps)∧wh y.2.1.vars 3=some (ii look)) ∨
   p.all (fun x=>q1s x p.length ps)=false ∧ ∃x,p.find? (fun x => !q1s x p.length ps)=some x∧(y.1 = .ret∧y.2.1.marks=[]∧y.2.2=[]∧wh y.2.1.vars 8=some (ii 22))):=by
 refine qib p (fun i=>⟨[(0,(.fsl ((p).map OpI.r) c)),(1,(ii ps)),(2,(ii lps)),(3,(ii look)),(9,(ii i))],[]⟩) [] (fun x=>q1s x p.length ps) _ (fun _ y => _) ?_ ?_ ?_
 ·intro i x hi hx hp
  have hi':(i:Int)<(p.length:Int):=by omega
  have hw:IntKind.i64.wrap ((i:Int)+1)=((i+1:Nat):Int):=by rw[qk (by omega) (by omega)];simp
  simp only[qlk,zgs,zgr,zgq,zgt,OpI.r,hx,hi',hw,qv2,hp,qh6,wg,qb,zgy,↓qc,↓we,wf,wc,wd]
 ·intro i x hi hx hp
  have hi':(i:Int)<(p.length:Int):=by omega
  simp only[qlk,zgs,zgr,zgq,zgt,OpI.r,hx,hi',qv2,hp,wg,qb,zgy,↓qc,↓we,wf,wc,wd]
  exact⟨_,rfl,rfl,rfl,rfl,rfl⟩
 ·simp only[qlk,ww,wg,zgy,↓qc,↓we,wc,wd]
  exact⟨_,rfl,rfl,rfl,rfl,rfl,rfl,rfl⟩
theorem qaae (hl:p.length≤16) :
  ∃y,itB (exec (evL T) itL none qi4) (qao [0,2,3,10] true 0) ⟨[(0,(.fsl ((p).map OpI.r) c)),(2,(ii lps)),(3,(ii look)),(10,(ii 0))],[]⟩ []=some y ∧
   (p.all (qagc lps)=true∧(y.1 = .exit 2∧y.2.1.marks=[]∧y.2.2=[]∧wh y.2.1.vars 0=some (.fsl ((p).map OpI.r) c)∧wh y.2.1.vars 3=some (ii look)) ∨
   p.all (qagc lps)=false ∧ ∃x,p.find? (fun x => !qagc lps x)=some x∧(y.1 = .ret∧y.2.1.marks=[]∧y.2.2=[]∧wh y.2.1.vars 8=some (ii 23))):=by
 refine qib p (fun i=>⟨[(0,(.fsl ((p).map OpI.r) c)),(2,(ii lps)),(3,(ii look)),(10,(ii i))],[]⟩) [] (qagc lps) _ (fun _ y => _) ?_ ?_ ?_
 ·intro i x hi hx hp
  have hi':(i:Int)<(p.length:Int):=by omega
  have hw:IntKind.i64.wrap ((i:Int)+1)=((i+1:Nat):Int):=by rw[qk (by omega) (by omega)];simp
  by_cases h1:x.code=2
  ·have h2:¬x.a≥lps:=by simpa[qagc,h1]using hp
   simp only[qi4,zgs,zgr,zgq,zgt,OpI.r,hx,hi',hw,h1,h2,qh6,wg,qb,zgy,↓qc,↓we,wf,wc,wd]
  ·simp only[qi4,zgs,zgr,zgq,zgt,OpI.r,hx,hi',hw,h1,qh6,wg,qb,zgy,↓qc,↓we,wf,wc,wd]
 ·intro i x hi hx hp
  have hi':(i:Int)<(p.length:Int):=by omega
  have h1:x.code=2:=by
   by_cases h1:x.code=2
   ·exact h1
   ·simp[qagc,h1]at hp
  have h2:x.a≥lps:=by simpa[qagc,h1]using hp
  simp only[qi4,zgs,zgr,zgq,zgt,OpI.r,hx,hi',h1,h2,wg,qb,zgy,↓qc,↓we,wf,wc,wd]
  exact⟨_,rfl,rfl,rfl,rfl,rfl⟩
 ·simp only[qi4,ww,wg,zgy,↓qc,↓we,wc,wd]
  exact⟨_,rfl,rfl,rfl,rfl,rfl,rfl⟩
theorem qaai (hl:p.length≤16) :
  ∃y,itB (exec (evL T) itL none qjc) (qao [0,3,11] true 0) ⟨[(0,(.fsl ((p).map OpI.r) c)),(3,(ii look)),(11,(ii 0))],[]⟩ []=some y ∧
   (p.all (qs0 look)=true∧(y.1 = .exit 4∧y.2.1.marks=[]∧y.2.2=[]) ∨
   p.all (qs0 look)=false ∧ ∃x,p.find? (fun x => !qs0 look x)=some x∧(y.1 = .ret∧y.2.1.marks=[]∧y.2.2=[]∧wh y.2.1.vars 8=some (ii 21))):=by
 refine qib p (fun i=>⟨[(0,(.fsl ((p).map OpI.r) c)),(3,(ii look)),(11,(ii i))],[]⟩) [] (qs0 look) _ (fun _ y => _) ?_ ?_ ?_
 ·intro i x hi hx hp
  have hi':(i:Int)<(p.length:Int):=by omega
  have hw:IntKind.i64.wrap ((i:Int)+1)=((i+1:Nat):Int):=by rw[qk (by omega) (by omega)];simp
  by_cases h1:x.code=2
  ·have h2:¬x.c<look:=by simpa[qs0,h1]using hp
   simp only[qjc,zgs,zgr,zgq,zgt,OpI.r,hx,hi',hw,h1,h2,qh6,wg,qb,zgy,↓qc,↓we,wf,wc,wd]
  ·simp only[qjc,zgs,zgr,zgq,zgt,OpI.r,hx,hi',hw,h1,qh6,wg,qb,zgy,↓qc,↓we,wf,wc,wd]
 ·intro i x hi hx hp
  have hi':(i:Int)<(p.length:Int):=by omega
  have h1:x.code=2:=by
   by_cases h1:x.code=2
   ·exact h1
   ·simp[qs0,h1]at hp
  have h2:x.c<look:=by simpa[qs0,h1]using hp
  simp only[qjc,zgs,zgr,zgq,zgt,OpI.r,hx,hi',h1,h2,wg,qb,zgy,↓qc,↓we,wf,wc,wd]
  exact⟨_,rfl,rfl,rfl,rfl,rfl⟩
 ·simp only[qjc,ww,wg,zgy,↓qc,↓we,wc,wd]
  exact⟨_,rfl,rfl,rfl,rfl⟩
theorem q0t:qaz (evL T) qkv [(.fsl ((p).map OpI.r) c),(ii ps),(ii lps),(ii look)]=some (ii (qrn p ps lps look)):=by
 have h0:=q91 p c
 rw[qaz,qg q8f q50]
 cases hs:qxr p with
 |false=>
  rw[hs]at h0
  simp only[qjr,qrn,h0,hs,qh6,wg,ql,zgy,↓qc,↓we,wf,wd]
 |true=>
  rw[hs]at h0
  have hl:p.length≤16:=by simp only[qxr,Bool.and_eq_true,decide_eq_true_eq]at hs;exact hs.1.2
  obtain⟨⟨y1,e1,σ1⟩,k1,k2⟩:=q96 p c ps lps look hl
  obtain⟨⟨y2,e2,σ2⟩,m1,m2⟩:=qaae p c lps look hl
  obtain⟨⟨y3,e3,σ3⟩,n1,n2⟩:=qaai p c look hl
  simp only at k2 m2 n2
  rcases k2 with ⟨q1,rfl,q2,rfl,q3,q4,q5⟩|⟨q1,x,_,rfl,q2,rfl,q3⟩
  ·rcases m2 with ⟨r1,rfl,r2,rfl,r3,r4⟩|⟨r1,x,_,rfl,r2,rfl,r3⟩
   ·rcases n2 with ⟨t1,rfl,t2,rfl⟩|⟨t1,x,_,rfl,t2,rfl,t3⟩
    ·simp only[qjr,qrn,h0,hs,k1,q1,q2,q3,q4,q5,m1,r1,r2,r3,r4,n1,t1,t2,qh6,wg,ql,zgy,↓qc,↓qx,↓we,wf,wc,wd]
    ·simp only[qjr,qrn,h0,hs,k1,q1,q2,q3,q4,q5,m1,r1,r2,r3,r4,n1,t1,t2,t3,qh6,wg,ql,zgy,↓qc,↓qx,↓we,wf,wc,wd]
   ·simp only[qjr,qrn,h0,hs,k1,q1,q2,q3,q4,q5,m1,r1,r2,r3,qh6,wg,ql,zgy,↓qc,↓qx,↓we,wf,wc,wd]
  ·simp only[qjr,qrn,h0,hs,k1,q1,q2,q3,qh6,wg,ql,zgy,↓qc,↓qx,↓we,wf,wc,wd]
end
set_option maxRecDepth 10000
structure Pr where
 prog:Int
 pc:Int
 alive:Bool
 timer:List Int
 deriving DecidableEq
def Pr.r (x:Pr):List AV:=[(ii x.prog),(ii x.pc),(bb x.alive),(.fsl ((x.timer).map qgg) false)]
theorem pr_lo (n:Nat) (x:Pr):los n x.r=true:=by simp only[Pr.r,qcs,wg,zgy]
theorem pr_pl (x:Pr):x.r.length=4∧qfk x.r=true:=⟨rfl,rfl⟩
theorem qc4 (n:Nat) (l:List Pr):qk9 n (l.map Pr.r)=true:=qk2 (pr_lo n) l
theorem procs_ok (l:List Pr):qdk 4 (l.map Pr.r)=true:=qp1 pr_pl l
structure Evt where
 time:Int
 key:List Int
 lp:Int
 kind:Int
 proc:Int
 arg:Int
 deriving DecidableEq
def Evt.r (x:Evt):List AV:=[(ii x.time),(.fsl ((x.key).map qgg) false),(ii x.lp),(ii x.kind),(ii x.proc),(ii x.arg)]
theorem qaiz (n:Nat) (x:Evt):los n x.r=true:=by simp only[Evt.r,qcs,wg,zgy]
theorem evt_pl (x:Evt):x.r.length=6∧qfk x.r=true:=⟨rfl,rfl⟩
theorem qa1 (n:Nat) (l:List Evt):qk9 n (l.map Evt.r)=true:=qk2 (qaiz n) l
theorem q8d (l:List Evt):qdk 6 (l.map Evt.r)=true:=qp1 evt_pl l
structure Lp where
 r0:Int
 r1:Int
 procs:List Pr
 sum:Int
 deriving DecidableEq
structure Ex where
 r0:Int
 r1:Int
 procs:List Pr
 sum:Int
 ev:Evt
 out:List Evt
 n:Int
 gone:List (List Int)
 over:Bool
def Ex.kid (x:Ex):List Int:=x.ev.key++[x.n]
def Ex.create (x : Ex) (d : Int) (e : Evt) : Ex :=
  { x with n := w64 (x.n + 1), out := if w64 (x.ev.time + d) > 1152921504606846976 then x.out else x.out ++ [⟨w64 (x.ev.time + d), x.kid, e.lp, e.kind, e.proc, e.arg⟩],
           over := if w64 (x.ev.time + d) > 1152921504606846976 then true else x.over }
structure Ex.Small (x:Ex):Prop where
 procs:x.procs.length≤1000
 out:x.out.length≤1000
 gone:x.gone.length≤1000
 key:x.ev.key.length≤100000
theorem qact (l:List Int):qx1 (l.map qgg) (l.map qgg)=true:=qzd (fun x=>by simp only[qgg,wg,zgy]) l
theorem eq_procs (l:List Pr):qx1 (l.map Pr.r) (l.map Pr.r)=true:=qzd (fun x=>by simp only[Pr.r,qact,wg,zgy]) l
theorem eq_evts (l:List Evt):qx1 (l.map Evt.r) (l.map Evt.r)=true:=qzd (fun x=>by simp only[Evt.r,qact,wg,zgy]) l
theorem eq_keys (l:List (List Int)):qx1 (l.map qnv) (l.map qnv)=true:=qzd (fun x=>by simp only[qnv,qact,wg,zgy]) l
set_option maxRecDepth 10000
def qwv (a b:Int):Int:=if a<b then -1 else if a>b then 1 else 0
def qqc:List Int→List Int→Int
 |x::a,y::b=>if x=y then qqc a b else qwv x y
 | [],b=>if b.length=0 then 0 else -1
 | _ :: _,[]=>1
theorem qaa1 : ∀a b:List Int,((a.zip b).all (fun z=>decide (z.1=z.2))=true→qqc a b=qwv a.length b.length) ∧ ∀x,(a.zip b).find? (fun z => !decide (z.1=z.2))=some x→qqc a b=qwv x.1 x.2
 | [],b=>by
  refine⟨fun _ => ?_,fun x h=>by simp at h⟩
  cases b with
  |nil=>rfl
  |cons y b=>
   have:((0:Nat):Int)<((y::b).length:Int):=by simp only[zga];omega
   simp only[qqc,zga,Nat.succ_ne_zero,if_false,qwv,zgb]
   rw[if_pos (by omega)]
 |x::a,[]=>by
  refine⟨fun _ => ?_,fun x h=>by simp at h⟩
  simp only[qqc,qwv,zga,zgb]
  rw[if_neg (by omega),if_pos (by omega)]
 |x::a,y::b=>by
  obtain⟨h1,h2⟩:=qaa1 a b
  simp only[List.zip_cons_cons,List.all_cons,List.find?_cons,qqc,zga]
  by_cases h:x=y
  ·simp only[h,zgv,Bool.true_and,if_true,Bool.not_true]
   refine⟨fun k => ?_,h2⟩
   rw[h1 k];unfold qwv
   have e1:((a.length:Int)<b.length)↔(((a.length+1:Nat):Int)<((b.length+1:Nat):Int)):=by omega
   have e2:((a.length:Int)>b.length)↔(((a.length+1:Nat):Int)>((b.length+1:Nat):Int)):=by omega
   simp only[e1,e2]
  ·simp only[h,zgw,Bool.false_and,if_false,Bool.not_false]
   exact⟨fun k=>by simp at k,fun z k=>by simp at k;rw[←k]⟩
theorem q7y (a b:Int):qwv a b=0↔a=b:=by
 unfold qwv;split
 ·constructor<;>intro h<;>omega
 split
 ·constructor<;>intro h<;>omega
 ·constructor<;>intro h<;>omega
theorem qabw : ∀a b:List Int,qqc a b=0↔a=b
 | [],[]=>by simp[qqc]
 | [],y::b=>by simp[qqc]
 |x::a,[]=>by simp[qqc]
 |x::a,y::b=>by
  simp only[qqc,List.cons.injEq]
  split
  next h=>rw[qabw a b];simp[h]
  next h=>rw[q7y];simp[h]
section
variable (a b:List Int) (c d:Bool)
end
section
variable (a b:List Evt) (c d:Bool)
end
set_option maxRecDepth 10000
theorem qad4 (a:Int):qaz (evL T) qhg [(ii a)]=some (bb false):=by
 rw[qaz,qg q38 q2p]
 simp only[qpb,wg,ql,ne_eq,zgy,↓qc,↓we,wc,wd]
theorem qnq (a b:Int):qaz (evL T) qei [(ii a),(ii b)]=some (ii (qwv a b)):=by
 have h0:=qad4
 rw[qaz,qg q1y q0b]
 by_cases h1:a<b
 ·simp only[qio,qwv,h0,h1,wg,ql,zgy,↓qc,↓we,wf,wc,wt,wd]
 by_cases h2:a>b
 ·simp only[qio,qwv,h0,h1,h2,wg,ql,zgy,↓qc,↓we,wf,wc,wt,wd]
 ·simp only[qio,qwv,h0,h1,h2,wg,ql,zgy,↓qc,↓we,wf,wc,wt,wd]
theorem qamr (x z:Int) (c:Bool):qaz (evL T) qmg [(.fsl (([x,z]).map qgg) c)]=some (ii (if x=0 then z else x)):=by
 have hL : ∃y,itB (exec (evL T) itL none qmf) (qao [3,6,7,8] true 0) ⟨[(3,(ii 0)),(6,(.fsl (([x,z]).map qgg) c)),(7,(ii 2)),(8,(ii 0))],[]⟩ []=some y∧([x,z].all (fun v=>decide (v=0))=true∧(y.1 = .exit 0∧y.2.1.marks=[]∧y.2.2=[]∧wh y.2.1.vars 3=some (ii 0)) ∨
   [x,z].all (fun v=>decide (v=0))=false ∧ ∃v,[x,z].find? (fun v => !decide (v=0))=some v∧(y.1 = .ret∧y.2.1.marks=[]∧y.2.2=[]∧wh y.2.1.vars 2=some (ii v))):=by
  refine qib [x,z] (fun i=>⟨[(3,(ii 0)),(6,(.fsl (([x,z]).map qgg) c)),(7,(ii 2)),(8,(ii i))],[]⟩) [] (fun v=>decide (v=0)) _ (fun v y => _) ?_ ?_ ?_
  ·intro i v hi hv hp
   have hi2:(i:Int)<2:=by simp at hi;omega
   have hw:IntKind.i64.wrap ((i:Int)+1)=((i+1:Nat):Int):=by rw[qk (by omega) (by omega)];simp
   have hp':=of_decide_eq_true hp
   subst hp'
   have hl:=qcs 0 [x,z]
   generalize [x,z]=l at hv hl⊢
   simp only[qmf,zgs,zgr,zgq,zgt,hv,hl,hi2,hw,qgg,wg,qb,ne_eq,zgy,↓qc,↓we,wc]
  ·intro i v hi hv hp
   have hi2:(i:Int)<2:=by simp at hi;omega
   have hp':¬v=0:=of_decide_eq_false hp
   have hl:=qcs 0 [x,z]
   generalize [x,z]=l at hv hl⊢
   simp only[qmf,zgs,zgr,zgq,zgt,hv,hi2,hp',qgg,wg,qb,ne_eq,zgy,↓qc,↓we,wc]
   exact⟨_,rfl,rfl,rfl,rfl,rfl⟩
  ·have hl:=qcs 0 [x,z]
   rw[show ([x,z]:List Int).length=2 from rfl]
   simp only[qmf,ww,wC,wg,zgy,↓qc,↓we,wc]
   exact⟨_,rfl,rfl,rfl,rfl,rfl⟩
 obtain⟨⟨y,e,σ⟩,k1,k2⟩:=hL
 simp only at k2
 have hl:=qcs 0 [x,z]
 have hn:([x,z].map qgg).length=2:=rfl
 rw[qaz,qg q98 q7t]
 rcases k2 with ⟨k3,rfl,k4,rfl,k5⟩|⟨k3,v,k6,rfl,k4,rfl,k5⟩
 ·have h1:x=0∧z=0:=by simpa using k3
  have h2:(if x=0 then z else x)=0:=by rw[if_pos h1.1,h1.2]
  rw[h2]
  generalize [x,z].map qgg=l at k1 hl hn⊢
  simp only[qqz,hn,wC,k1,k4,k5,hl,wg,ql,zgy,↓qc,↓qx,↓we,wc,wd]
 ·have h1:(if x=0 then z else x)=v:=by
   rw[List.find?_cons]at k6
   by_cases hx:x=0
   ·rw[if_pos hx];simp[hx]at k6;exact k6.2
   ·rw[if_neg hx];simp[hx]at k6;exact k6
  rw[h1]
  generalize [x,z].map qgg=l at k1 hl hn⊢
  simp only[qqz,hn,wC,k1,k4,k5,hl,wg,ql,zgy,↓qc,↓qx,↓we,wc,wd]
theorem q0q (x z:Int) (c:Bool):qaz (evL T) qje [(.fsl (([x,z]).map qgg) c)]=some (ii (if x=0 then z else x)):=by
 have h:=qamr x z c
 have hl:=qcs 0 [x,z]
 generalize [x,z].map qgg=l at h hl⊢
 rw[qaz,qg q8k q6a]
 simp only[qrp,h,hl,wg,ql,zgy,↓qc,↓we,wd]
section
variable (a b:List Int) (c d:Bool)
theorem q6w (h1:a.length≤9223372036854775807) (h2:b.length≤9223372036854775807) :
  ∃y,itB (exec (evL T) itL none qdv) (qao [0,1,9,10,11] true 0) ⟨[(0,(.fsl ((a).map qgg) c)),(1,(.fsl ((b).map qgg) d)),(9,(.fsl ((a).map qgg) c)),(10,(ii a.length)),(11,(ii 0))],[]⟩ []=some y ∧
   ((a.zip b).all (fun z=>decide (z.1=z.2))=true∧(a.length≤b.length∧y.1 = .exit 0∧y.2.1.marks=[]∧y.2.2=[]∧wh y.2.1.vars 0=some (.fsl ((a).map qgg) c)∧wh y.2.1.vars 1=some (.fsl ((b).map qgg) d)∨b.length<a.length∧y.1 = .ret∧y.2.1.marks=[]∧y.2.2=[]∧wh y.2.1.vars 4=some (ii 1)) ∨
   (a.zip b).all (fun z=>decide (z.1=z.2))=false ∧ ∃x,(a.zip b).find? (fun z => !decide (z.1=z.2))=some x∧(y.1 = .ret∧y.2.1.marks=[]∧y.2.2=[]∧wh y.2.1.vars 4=some (ii (qwv x.1 x.2)))):=by
 have hzl:(a.zip b).length=min a.length b.length:=List.length_zip
 refine qib (a.zip b) (fun i=>⟨[(0,(.fsl ((a).map qgg) c)),(1,(.fsl ((b).map qgg) d)),(9,(.fsl ((a).map qgg) c)),(10,(ii a.length)),(11,(ii i))],[]⟩) [] (fun z=>decide (z.1=z.2)) _ (fun x y => _) ?_ ?_ ?_
 ·intro i x hi hx hp
  rw[hzl]at hi
  have hi':(i:Int)<(a.length:Int):=by omega
  have hi2:¬(i:Int)≥(b.length:Int):=by omega
  have hw:IntKind.i64.wrap ((i:Int)+1)=((i+1:Nat):Int):=by rw[qk (by omega) (by omega)];simp
  obtain⟨hxa,hxb⟩:=List.getElem?_zip_eq_some.1 hx
  have hp':=of_decide_eq_true hp
  have hc:=qnq x.1 x.2
  rw[(q7y x.1 x.2).2 hp']at hc
  simp only[qdv,zgs,zgr,zgq,zgt,hxa,hxb,hi',hi2,hw,hc,qcs,qgg,wg,qb,ne_eq,zgy,↓qc,↓we,wc,wd]
 ·intro i x hi hx hp
  rw[hzl]at hi
  have hi':(i:Int)<(a.length:Int):=by omega
  have hi2:¬(i:Int)≥(b.length:Int):=by omega
  obtain⟨hxa,hxb⟩:=List.getElem?_zip_eq_some.1 hx
  have hp':¬x.1=x.2:=of_decide_eq_false hp
  have hc:=qnq x.1 x.2
  have hz:¬qwv x.1 x.2=0:=fun h=>hp' ((q7y _ _).1 h)
  simp only[qdv,zgs,zgr,zgq,zgt,hxa,hxb,hi',hi2,hz,hc,qgg,wg,qb,ne_eq,zgy,↓qc,↓we,wc,wd]
  exact⟨_,rfl,rfl,rfl,rfl,rfl⟩
 ·rw[hzl]
  by_cases hab:a.length≤b.length
  ·rw[Nat.min_eq_left hab]
   simp only[qdv,ww,wg,zgy,↓qc,↓we,wc,wd]
   exact⟨_,rfl,.inl ⟨hab,rfl,rfl,rfl,rfl,rfl⟩⟩
  ·rw[Nat.min_eq_right (by omega)]
   have h3:(b.length:Int)<(a.length:Int):=by omega
   obtain⟨x,hx⟩ : ∃x,a[b.length]? = some x:=⟨_,zgE (by omega)⟩
   have h4:(b.length:Int)≥(b.length:Int):=Int.le_refl _
   simp only[qdv,zgs,zgr,zgq,zgt,h3,h4,hx,qgg,wg,qb,zgy,↓qc,↓we,wc,wd]
   exact⟨_,rfl,.inr ⟨by omega,rfl,rfl,rfl,rfl⟩⟩
theorem q32 (h1:a.length≤9223372036854775807) (h2:b.length≤9223372036854775807):qaz (evL T) qdn [(.fsl ((a).map qgg) c),(.fsl ((b).map qgg) d)]=some (ii (qqc a b)):=by
 obtain⟨⟨y,e,σ⟩,k1,k2⟩:=q6w a b c d h1 h2
 simp only at k2
 obtain⟨z1,z2⟩:=qaa1 a b
 rw[qaz,qg qtc qsc]
 rcases k2 with ⟨k3,⟨k7,rfl,k4,rfl,k5,k6⟩|⟨k7,rfl,k4,rfl,k5⟩⟩|⟨k3,x,k7,rfl,k4,rfl,k5⟩
 ·rw[z1 k3]
  by_cases hl:(a.length:Int)<(b.length:Int)
  ·simp only[qdp,k1,k4,k5,k6,hl,qwv,qcs,wg,ql,zgy,↓qc,↓qx,↓we,wf,wc,wt,wd]
  ·have hg:¬(a.length:Int)>(b.length:Int):=by omega
   simp only[qdp,k1,k4,k5,k6,hl,hg,qwv,qcs,wg,ql,zgy,↓qc,↓qx,↓we,wf,wc,wt,wd]
 ·have hl:¬(a.length:Int)<(b.length:Int):=by omega
  have hg:(a.length:Int)>(b.length:Int):=by omega
  rw[z1 k3]
  simp only[qdp,k1,k4,k5,hl,hg,qwv,qcs,wg,ql,zgy,↓qc,↓qx,↓we,wf,wc,wt,wd]
 ·rw[z2 x k7]
  simp only[qdp,k1,k4,k5,qcs,wg,ql,zgy,↓qc,↓qx,↓we,wf,wc,wt,wd]
theorem qz5 (h1:a.length≤9223372036854775807) (h2:b.length≤9223372036854775807):qaz (evL T) qfy [(.fsl ((a).map qgg) c),(.fsl ((b).map qgg) d)]=some (ii (qqc a b)):=by
 have h:=q32 a b c d h1 h2
 rw[qaz,qg qy5 qxy]
 simp only[qks,h,qcs,wg,ql,zgy,↓qc,↓we,wf,wc,wd]
end
def q65 (x y:Evt):Int:=if qwv x.time y.time=0 then qqc x.key y.key else qwv x.time y.time
theorem qm4 (x y:Evt) (hx:x.key.length≤9223372036854775807) (hy:y.key.length≤9223372036854775807) (rs:Nat) (es:List (List AV)) (g:Nat) :
  (evL T).call qd [(.agg [(ii x.time),(.fsl ((x.key).map qgg) false),(ii x.lp),(ii x.kind),(ii x.proc),(ii x.arg)]),(.agg [(ii y.time),(.fsl ((y.key).map qgg) false),(ii y.lp),(ii y.kind),(ii y.proc),(ii y.arg)])] [.row rs es g]=some ((ii (q65 x y)),[.row rs es g]):=by
 obtain⟨xt,xk,xl,xi,xp,xa⟩:=x
 obtain⟨yt,yk,yl,yi,yp,ya⟩:=y
 have hc:=qnq xt yt
 have hk:=qz5 xk yk false false hx hy
 have hf:=q0q (qwv xt yt) (qqc xk yk) true
 simp only[List.map_cons,List.map_nil,qgg]at hf
 rw[qg qws qwh]
 simp only[qjm,show ∀v:List AV,List.replicate 2 v=[v,v] from fun _=>rfl,hc,hk,hf,q65,ite_self,qcs,wg,qb,wj,Ev.AV.uc,wk,ql,wl,ne_eq,zgy,↓qc,↓we,wf,wc,Nat.reduceMul,Nat.reduceLT,wB,Nat.reducePow,wd]
theorem q61 (a b:Int):qwv b a = -qwv a b:=by unfold qwv;split<;>split<;>(try split)<;>omega
theorem qj8 (a b:Int):(qwv a b<0↔a<b)∧(qwv a b=0↔a=b)∧(0<qwv a b↔b<a):=by
 unfold qwv
 split
 ·refine⟨?_,?_,?_⟩<;>omega
 split
 ·refine⟨?_,?_,?_⟩<;>omega
 ·refine⟨?_,?_,?_⟩<;>omega
theorem qafc : ∀a b:List Int,qqc b a = -qqc a b
 | [],[]=>rfl
 | [],y::b=>by simp[qqc]
 |x::a,[]=>by simp[qqc]
 |x::a,y::b=>by
  simp only[qqc]
  by_cases h:x=y
  ·subst h;simp only[if_true];exact qafc a b
  ·rw[if_neg h,if_neg (fun e=>h e.symm)];exact q61 x y
theorem q7x : ∀a b c:List Int,qqc a b≤0→qqc b c≤0→qqc a c≤0
 | [],b,c,_,_=>by cases c<;>simp[qqc]
 |x::a,[],c,h,_=>by simp[qqc]at h
 |x::a,y::b,[],_,h=>by simp[qqc]at h
 |x::a,y::b,z::c,h1,h2=>by
  simp only[qqc]at h1 h2⊢
  have c1:=qj8 x y
  have c2:=qj8 y z
  have c3:=qj8 x z
  by_cases e1:x=y
  ·subst e1
   rw[if_pos rfl]at h1
   by_cases e2:x=z
   ·subst e2;rw[if_pos rfl]at h2 ⊢;exact q7x a b c h1 h2
   ·rw[if_neg e2]at h2 ⊢;exact h2
  ·rw[if_neg e1]at h1
   by_cases e2:y=z
   ·subst e2;rw[if_neg e1];exact h1
   ·rw[if_neg e2]at h2
    have:¬x=z:=by intro e;omega
    rw[if_neg this]
    omega
def leE (x y:Evt):Prop:=q65 x y≤0
theorem q2v (x y:Evt):q65 y x = -q65 x y:=by
 unfold q65
 have:=q61 x.time y.time
 have:=qafc x.key y.key
 by_cases h:qwv x.time y.time=0
 ·rw[if_pos h,if_pos (by omega)];assumption
 ·rw[if_neg h,if_neg (by omega)];assumption
theorem qwn (x y z:Evt) (h1:leE x y) (h2:leE y z):leE x z:=by
 unfold leE q65 at *
 have c1:=qj8 x.time y.time
 have c2:=qj8 y.time z.time
 have c3:=qj8 x.time z.time
 by_cases e1:qwv x.time y.time=0
 ·rw[if_pos e1]at h1
  by_cases e2:qwv y.time z.time=0
  ·rw[if_pos e2]at h2
   rw[if_pos (by omega)];exact q7x _ _ _ h1 h2
  ·rw[if_neg e2]at h2
   rw[if_neg (by omega)];omega
 ·rw[if_neg e1]at h1
  by_cases e2:qwv y.time z.time=0
  ·rw[if_neg (by omega)];omega
  ·rw[if_neg e2]at h2
   rw[if_neg (by omega)];omega
theorem qz0 (x y:Evt) (h:¬q65 x y<0):leE y x:=by unfold leE;have:=q2v x y;omega
theorem qaie (x y:Evt) (h:q65 x y<0):leE x y:=by unfold leE;omega
theorem qae6 (x y:Evt):q65 x y=0↔x.time=y.time∧x.key=y.key:=by
 unfold q65
 have:=qj8 x.time y.time
 have:=qabw x.key y.key
 by_cases h:qwv x.time y.time=0
 ·rw[if_pos h];constructor
  ·intro k;exact⟨by omega,by simpa[k]using this⟩
  ·intro k;exact this.2 k.2
 ·rw[if_neg h];constructor
  ·intro k;exact absurd k h
  ·intro k;omega
set_option maxRecDepth 10000
def q36 (x y:Item):Int:=if qwv x.time y.time=0 then qwv x.seq y.seq else qwv x.time y.time
def qm2 (x y:Item):Prop:=q36 x y≤0
theorem qal5 (x y:Item):q36 y x = -q36 x y:=by
 unfold q36
 have:=q61 x.time y.time
 have:=q61 x.seq y.seq
 by_cases h:qwv x.time y.time=0
 ·rw[if_pos h,if_pos (by omega)];assumption
 ·rw[if_neg h,if_neg (by omega)];assumption
theorem qaif (x y:Item):qm2 x y↔x.time<y.time∨(x.time=y.time∧x.seq≤y.seq):=by
 unfold qm2 q36
 have c1:=qj8 x.time y.time
 have c2:=qj8 x.seq y.seq
 by_cases h:qwv x.time y.time=0
 ·rw[if_pos h];omega
 ·rw[if_neg h];omega
theorem qzn (x y z:Item) (h1:qm2 x y) (h2:qm2 y z):qm2 x z:=by
 rw[qaif]at *;omega
theorem qxa (x y:Item) (h:¬q36 x y<0):qm2 y x:=by unfold qm2;have:=qal5 x y;omega
theorem qab9 (x y:Item) (h:q36 x y<0):qm2 x y:=by unfold qm2;omega
theorem ql1 (x y:Item) (hx:x.key.length≤9223372036854775807) (hy:y.key.length≤9223372036854775807) (rs:Nat) (es:List (List AV)) (g:Nat) :
  (evL T).call qe [(.agg [(ii x.time),(ii x.seq),(ii x.slot)]),(.agg [(ii y.time),(ii y.seq),(ii y.slot)])] [.row rs es g]=some ((ii (q36 x y)),[.row rs es g]):=by
 obtain⟨xt,xs,xp⟩:=x
 obtain⟨yt,ys,yp⟩:=y
 have hc:=qnq xt yt
 have hk:=qnq xs ys
 have hf:=q0q (qwv xt yt) (qwv xs ys) true
 simp only[List.map_cons,List.map_nil,qgg]at hf
 rw[qg qx7 qwr]
 simp only[qj6,show ∀v:List AV,List.replicate 2 v=[v,v] from fun _=>rfl,hc,hk,hf,q36,ite_self,wg,qb,wj,Ev.AV.uc,wk,ql,wl,ne_eq,zgy,↓qc,↓we,wf,wc,Nat.reduceMul,Nat.reduceLT,wB,Nat.reducePow,wd]
structure Rg where
 f:Int
 w:Int
 c:Int
 bs:List (List Item)
def Rg.its (r:Rg):List Item:=r.bs.flatten
def Rg.cur (r:Rg):Int:=r.f+r.c*r.w
def tM:Int:=1152921504606846976
structure RgOk (r:Rg):Prop where
 len:r.bs.length=8
 f:0≤r.f∧r.f≤tM
 w:1≤r.w∧r.w≤288230376151711744
 c:0≤r.c∧r.c≤8
 at_ : ∀(k:Nat) (b:List Item),r.bs[k]? = some b → ∀x∈b,r.c≤k∧r.f+(k:Int)*r.w≤x.time∧x.time<r.f+((k:Int)+1)*r.w
theorem mul_mono {a b w:Int} (h:a≤b) (hw:1≤w):a*w≤b*w:=Int.mul_le_mul_of_nonneg_right h (by omega)
theorem mem_its {r:Rg} {x:Item} (h:x∈r.its) : ∃(k:Nat) (b:List Item),r.bs[k]? = some b∧x∈b:=by
 unfold Rg.its at h
 obtain⟨b,hb,hx⟩:=List.mem_flatten.1 h
 obtain⟨k,hk⟩:=List.mem_iff_getElem?.1 hb
 exact⟨k,b,hk,hx⟩
theorem RgOk.ge {r:Rg} (R:RgOk r) : ∀x∈r.its,r.cur≤x.time:=fun x hx=>by
 obtain⟨k,b,hk,hb⟩:=mem_its hx
 obtain⟨h1,h2,_⟩:=R.at_ k b hk x hb
 have:=mul_mono h1 R.w.1
 unfold Rg.cur;omega
theorem qqg {bs:List (List Item)} {k:Nat} {b:List Item} (h:bs[k]? = some b):bs.flatten.Perm (b++((bs.take k).flatten++(bs.drop (k+1)).flatten)):=by
 obtain⟨hk,rfl⟩:=wy.1 h
 have e:bs=bs.take k++bs[k]::bs.drop (k+1):=by rw[List.getElem_cons_drop,wx]
 conv=>lhs;rw[e]
 rw[List.flatten_append,List.flatten_cons]
 exact List.perm_append_comm_assoc _ _ _
theorem qqa {bs:List (List Item)} {k:Nat} (hk:k<bs.length) (b:List Item):(bs.set k b).flatten.Perm (b++((bs.take k).flatten++(bs.drop (k+1)).flatten)):=by
 rw[List.set_eq_take_append_cons_drop,if_pos hk,List.flatten_append,List.flatten_cons]
 exact List.perm_append_comm_assoc _ _ _
theorem RgOk.put {f w:Int} {bs:List (List Item)} (R:RgOk ⟨f,w,0,bs⟩) {x:Item} (h1:f≤x.time) (h2:x.time<f+8*w) :
  ∃(k:Nat) (b:List Item),(x.time-f) / w=(k:Int)∧bs[k]? = some b∧RgOk ⟨f,w,0,bs.set k (b++[x])⟩∧(bs.set k (b++[x])).flatten.Perm (x::bs.flatten):=by
 have hw:=R.w.1
 simp only at hw
 have q0:0≤(x.time-f) / w:=Int.ediv_nonneg (by omega) (by omega)
 have q8:(x.time-f) / w<8:=Int.ediv_lt_of_lt_mul (by omega) (by omega)
 obtain⟨k,hk⟩ : ∃k:Nat,(x.time-f) / w=(k:Int):=⟨((x.time-f) / w).toNat,by omega⟩
 have hlen:=R.len
 simp only at hlen
 have hkl:k<bs.length:=by omega
 have hb:bs[k]? = some bs[k]:=wp hkl
 have d1:=Int.mul_ediv_add_emod (x.time-f) w
 have d2:=Int.emod_nonneg (x.time-f) (show w≠0 by omega)
 have d3:=Int.emod_lt_of_pos (x.time-f) (show 0<w by omega)
 rw[hk]at d1
 have c1:w*(k:Int)=(k:Int)*w:=Int.mul_comm _ _
 have c2:((k:Int)+1)*w=(k:Int)*w+w:=by rw[Int.add_mul,Int.one_mul]
 refine⟨k,bs[k],hk,hb,⟨by simpa using hlen,R.f,R.w,R.c,?_⟩,?_⟩
 ·intro j b hj y hy
  simp only at hj⊢
  by_cases e:k=j
  ·subst e
   rw[List.getElem?_set_self hkl]at hj
   cases hj
   rcases wo.1 hy with hy|hy
   ·exact R.at_ k _ hb y hy
   ·rw[List.mem_singleton]at hy;subst hy
    exact⟨by omega,by omega,by omega⟩
  ·rw[wr e]at hj
   exact R.at_ j b hj y hy
 ·refine(qqa hkl _).trans ?_
  have h3:=qqg hb
  refine List.Perm.trans ?_ (h3.symm.cons x)
  rw[wn,List.singleton_append]
  exact List.perm_middle
theorem q3c : ∀ {bs:List (List Item)},qhl bs=none→bs.flatten=[]
 | [],_=>rfl
 | []::bs,h=>by
  simp only[qhl,Option.map_eq_none_iff]at h
  rw[List.flatten_cons,q3c h];rfl
 |(x::xs)::bs,h=>by simp[qhl]at h
theorem RgOk.next {r:Rg} (R:RgOk r) {k:Nat} {b:List Item} (h:qhl r.bs=some k) (hb:r.bs[k]? = some b) :
  RgOk ⟨r.f,r.w,(k:Int)+1,r.bs.set k []⟩∧r.its.Perm (b++(⟨r.f,r.w,(k:Int)+1,r.bs.set k []⟩:Rg).its)∧(∀x∈b,r.f+(k:Int)*r.w≤x.time∧x.time<r.f+((k:Int)+1)*r.w)∧b ≠ []∧k<8:=by
 have hkl:=(wy.1 hb).1
 have hlen:=R.len
 obtain⟨h1,b',hb',hne⟩:=qzg h
 rw[hb]at hb';cases hb'
 refine⟨⟨by simpa using hlen,R.f,R.w,⟨by simp only;omega,by simp only;omega⟩,?_⟩,?_,fun x hx=>(R.at_ k b hb x hx).2,hne,by omega⟩
 ·intro j c hj y hy
  simp only at hj⊢
  by_cases e:k=j
  ·subst e
   rw[List.getElem?_set_self hkl]at hj;cases hj;simp at hy
  ·rw[wr e]at hj
   have:=(R.at_ j c hj y hy).2
   refine⟨?_,this⟩
   by_cases c2:j<k
   ·have:c=[]:=h1 c (List.mem_of_getElem? (by rw[List.getElem?_take_of_lt c2];exact hj))
    subst this;simp at hy
   ·omega
 ·unfold Rg.its
  refine(qqg hb).trans (List.Perm.append_left b ?_)
  exact((qqa hkl []).symm)
def qxp:List Item→List Rg→Prop
 | _,[]=>True
 |lo,r::rs=>RgOk r∧(∀x∈lo,x.time<r.cur)∧qxp (lo++r.its) rs
theorem qxp.mono : ∀ {rs:List Rg} {lo lo':List Item},(∀x∈lo',x∈lo)→qxp lo rs→qxp lo' rs
 | [],_,_,_,_=>trivial
 |r::rs,lo,lo',h,⟨h1,h2,h3⟩=>⟨h1,fun x hx=>h2 x (h x hx),qxp.mono (fun x hx=>by
   rcases wo.1 hx with hx|hx
   ·exact wG _ (h x hx)
   ·exact List.mem_append_right _ hx) h3⟩
def q6b (rs:List Rg):List Item:=(rs.map Rg.its).flatten
theorem qlp (r:Rg) (rs:List Rg):q6b (r::rs)=r.its++q6b rs:=by simp[q6b]
theorem qxp.lt : ∀ {rs:List Rg} {lo:List Item},qxp lo rs → ∀x∈lo,∀y∈q6b rs,x.time<y.time
 | [],_,_,x,_,y,hy=>by simp[q6b]at hy
 |r::rs,lo,⟨h1,h2,h3⟩,x,hx,y,hy=>by
  rw[qlp]at hy
  rcases wo.1 hy with hy|hy
  ·have:=h2 x hx;have:=h1.ge y hy;omega
  ·exact qxp.lt h3 x (wG _ hx) y hy
def pot:List Rg→Nat
 | []=>0
 |r::rs=>(4-rs.length)*r.its.length+pot rs
def ltJ (x y:Item):Prop:=x.time<y.time∨(x.time=y.time∧x.seq<y.seq)
structure LdOk (T:List Item) (n:Nat) (bot:List Item) (rs:List Rg) (mv:Nat):Prop where
 perm:(bot++q6b rs).Perm T
 chain:qxp bot rs
 sort:bot.Pairwise qm2
 depth:rs.length≤4
 mvs:mv+pot rs≤6*n
 times : ∀x∈T,0≤x.time∧x.time≤tM
section
variable {T:List Item} {n:Nat} {r:Rg} {rs:List Rg} {mv:Nat}
theorem LdOk.drop (L:LdOk T n [] (r::rs) mv) (h:qhl r.bs=none):LdOk T n [] rs mv:=by
 have he:r.its=[]:=q3c h
 have hp:=L.perm
 rw[qlp,he]at hp
 have hm:=L.mvs
 simp only[pot,he,zgb]at hm
 exact⟨hp,L.chain.2.2.mono (fun x hx=>by simp at hx),L.sort,by have:=L.depth;simp at this;omega,by omega,L.times⟩
theorem pot_take {a b c:Nat} (h:c=a+b) (d:Nat) (hd:1≤d):a+d*b≤d*c:=by
 subst h
 rw[Nat.mul_add]
 have:1*a≤d*a:=Nat.mul_le_mul_right a hd
 omega
theorem LdOk.toBot (L:LdOk T n [] (r::rs) mv) {k:Nat} {b S:List Item} (h:qhl r.bs=some k) (hb:r.bs[k]? = some b) (hS:S.Perm b) (hs:S.Pairwise qm2) :
  LdOk T n S (⟨r.f,r.w,(k:Int)+1,r.bs.set k []⟩::rs) (mv+b.length):=by
 obtain⟨R1,p1,t1,_,hk8⟩:=L.chain.1.next h hb
 have hp:=L.perm
 rw[wD,qlp]at hp
 have hd:=L.depth
 rw[wI]at hd
 refine⟨?_,⟨R1,fun x hx=>(t1 x (hS.mem_iff.1 hx)).2,L.chain.2.2.mono (fun x hx => ?_)⟩,hs,by rw[wI];exact hd,?_,L.times⟩
 ·rw[qlp,←wn]
  refine List.Perm.trans (List.Perm.append_right _ ?_) hp
  exact(hS.append_right _).trans p1.symm
 ·rw[wD]
  refine p1.mem_iff.2 ?_
  rcases wo.1 hx with hx|hx
  ·exact wG _ (hS.mem_iff.1 hx)
  ·exact List.mem_append_right _ hx
 ·have hm:=L.mvs
  have hl:=p1.length_eq
  rw[wq]at hl
  simp only[pot]at hm⊢
  have:=pot_take hl (4-rs.length) (by omega)
  omega
theorem LdOk.deeper (L:LdOk T n [] (r::rs) mv) {k:Nat} {b:List Item} (h:qhl r.bs=some k) (hb:r.bs[k]? = some b) {r2:Rg} (R2:RgOk r2) (h2:r2.its.Perm b) (hd:rs.length+1<4) :
  LdOk T n [] (r2::⟨r.f,r.w,(k:Int)+1,r.bs.set k []⟩::rs) (mv+b.length):=by
 obtain⟨R1,p1,t1,_,hk8⟩:=L.chain.1.next h hb
 have hp:=L.perm
 rw[wD,qlp]at hp
 refine⟨?_,⟨R2,fun x hx=>by simp at hx,R1,fun x hx => ?_,L.chain.2.2.mono (fun x hx => ?_)⟩,.nil,by simp only[zga];omega,?_,L.times⟩
 ·rw[wD,qlp,qlp,←wn]
  refine List.Perm.trans (List.Perm.append_right _ ?_) hp
  exact(h2.append_right _).trans p1.symm
 ·rw[wD]at hx
  exact(t1 x (h2.mem_iff.1 hx)).2
 ·rw[wD]at hx⊢
  refine p1.mem_iff.2 ?_
  rcases wo.1 hx with hx|hx
  ·exact wG _ (h2.mem_iff.1 hx)
  ·exact List.mem_append_right _ hx
 ·have hm:=L.mvs
  have hl:=p1.length_eq
  rw[wq]at hl
  have hl2:=h2.length_eq
  simp only[pot,zga]at hm⊢
  rw[hl2]
  obtain⟨d,hd2⟩ : ∃d,4-rs.length=d+1:=⟨3-rs.length,by omega⟩
  rw[hd2]at hm⊢
  rw[show 4-(rs.length+1)=d by omega]
  rw[hl,Nat.mul_add,Nat.add_mul,Nat.one_mul]at hm
  omega
theorem LdOk.head {t b:Item} {bot:List Item} (L:LdOk (t::T) n (b::bot) rs mv) (hT:(t::T).Pairwise ltJ):b=t∧LdOk T n bot rs mv:=by
 have hbt:b=t:=by
  have h1:b∈t::T:=L.perm.mem_iff.1 (by simp)
  have h2:t∈b::bot++q6b rs:=L.perm.mem_iff.2 (by simp)
  rcases wA.1 h1 with h1|h1
  ·exact h1
  ·have hlt:=(wJ.1 hT).1 b h1
   rcases wo.1 h2 with h2|h2
   ·rcases wA.1 h2 with h2|h2
    ·exact h2.symm
    ·have:=(qaif b t).1 ((wJ.1 L.sort).1 t h2)
     unfold ltJ at hlt;omega
   ·have:=L.chain.lt b (by simp) t h2
    unfold ltJ at hlt;omega
 subst hbt
 refine⟨rfl,List.Perm.cons_inv (a:=b) (by simpa using L.perm),L.chain.mono (fun x hx=>wF _ hx),(wJ.1 L.sort).2,L.depth,L.mvs,fun x hx=>L.times x (wF _ hx)⟩
theorem LdOk.some {t:Item} (L:LdOk (t::T) n [] rs mv):rs ≠ []:=fun e=>by
 subst e
 have:=L.perm.length_eq
 simp[q6b]at this
theorem LdOk.top_small {its S:List Item} (hp:its.Perm T) (hn:n=its.length) (ht : ∀x∈T,0≤x.time∧x.time≤tM) (hS:S.Perm its) (hs:S.Pairwise qm2):LdOk T n S [] (n+n):=
 ⟨by simpa[q6b]using hS.trans hp,trivial,hs,by simp,by simp[pot];omega,ht⟩
theorem LdOk.top_big {its:List Item} (hp:its.Perm T) (hn:n=its.length) (ht : ∀x∈T,0≤x.time∧x.time≤tM) (R:RgOk r) (h:r.its.Perm its):LdOk T n [] [r] (n+n):=
 ⟨by simpa[q6b]using h.trans hp,⟨R,fun x hx=>by simp at hx,trivial⟩,.nil,by simp,by simp only[pot,zgb];rw[h.length_eq,←hn];omega,ht⟩
end
theorem q5e {α:Type} [DecidableEq α] : ∀ {F I:List α},F.Nodup→(∀x∈F,x∈I)→I.length=F.length→I.Perm F
 | [],I,_,_,hl=>by rw[wm hl]
 |x::F,I,hn,hs,hl=>by
  obtain⟨h1,h2⟩:=List.nodup_cons.1 hn
  have hx:=hs x (by simp)
  have hp:=List.perm_cons_erase hx
  refine hp.trans (List.Perm.cons x (q5e h2 (fun y hy => ?_) ?_))
  ·have hne:y≠x:=fun e=>h1 (e▸hy)
   exact(List.mem_erase_of_ne hne).2 (hs y (wF _ hy))
  ·rw[List.length_erase_of_mem hx,hl];simp
theorem rot_perm (n t:Nat):((List.range n).map fun i=>(i+t)%n).Perm (List.range n):=by
 refine q5e List.nodup_range (fun x hx => ?_) (by simp)
 rw[List.mem_range]at hx
 have hn:0<n:=by omega
 have hm:=Nat.mod_lt t hn
 refine List.mem_map.2 ⟨(x+(n-t%n))%n,List.mem_range.2 (Nat.mod_lt _ hn),?_⟩
 rw[Nat.mod_add_mod]
 have e:x+(n-t%n)+t=x+n*(1+t / n):=by
  have:=Nat.div_add_mod t n
  rw[Nat.mul_add,Nat.mul_one]
  omega
 rw[e,Nat.add_mul_mod_self_left]
 exact Nat.mod_eq_of_lt hx
def qor (s:List Evt) (k:Nat):Item:=⟨((s[k]?).map Evt.time).getD 0,k,0⟩
def target (s:List Evt):List Item:=(List.range s.length).map (qor s)
def qadq (s:List Evt) (t i:Nat):List Item:=(List.range i).map fun j=>qor s ((j+t)%s.length)
theorem qanp (s:List Evt) (t:Nat):(qadq s t s.length).Perm (target s):=by
 unfold qadq target
 have:=(rot_perm s.length t).map (qor s)
 rwa[List.map_map]at this
theorem qam0 (s:List Evt) (t i:Nat):qadq s t (i+1)=qadq s t i++[qor s ((i+t)%s.length)]:=by
 unfold qadq;rw[List.range_succ,List.map_append];rfl
theorem qahp (s:List Evt) (t i:Nat):(qadq s t i).length=i:=by simp[qadq]
theorem qanm {x y:Evt} (h:leE x y):x.time≤y.time:=by
 unfold leE q65 at h
 have c:=qj8 x.time y.time
 split at h<;>omega
theorem q1a {s:List Evt} {k:Nat} {e:Evt} (h:s[k]? = some e):(qor s k).time=e.time:=by unfold qor;rw[h];rfl
theorem qadb {s:List Evt} (h:s.Pairwise leE):(target s).Pairwise ltJ:=by
 unfold target
 rw[List.pairwise_map,List.pairwise_iff_getElem]
 intro i j hi hj hij
 simp only[List.getElem_range]
 simp only[List.length_range]at hi hj
 rw[List.pairwise_iff_getElem]at h
 have:=qanm (h i j hi hj hij)
 have e1:(qor s i).time=s[i].time:=q1a (wp hi)
 have e2:(qor s j).time=s[j].time:=q1a (wp hj)
 have e3:(qor s i).seq=(i:Int):=rfl
 have e4:(qor s j).seq=(j:Int):=rfl
 unfold ltJ
 omega
theorem qagu {s:List Evt} {i:Nat} (hi:i<s.length):(target s).drop i=qor s i::(target s).drop (i+1):=by
 have hl:i<(target s).length:=by simpa[target]using hi
 rw[wu hl]
 congr 1
 simp[target]
theorem qaj0 {s:List Evt} {x:Item} (h:x∈target s) : ∃(k:Nat) (e:Evt),s[k]? = some e∧x=qor s k:=by
 unfold target at h
 obtain⟨k,hk,rfl⟩:=List.mem_map.1 h
 rw[List.mem_range]at hk
 exact⟨k,s[k],wp hk,rfl⟩
end Go.Proofs.YtfdoelhnnmcppaaGreat.K
namespace Go.Ev
section
variable {α:Type}
theorem qkj {D L M:List α} {x:α} {n:Nat} (h:D=L++x::M) (hn:n=L.length):D[n]? = some x:=by
 subst h hn;simp
theorem qrl {D L X M:List α} {i n:Nat} (h:D=L++(X++M)) (hi:i<X.length) (hn:n=L.length+i):D[n]? = X[i]?:=by
 subst h hn
 rw[List.getElem?_append_right (by omega),List.getElem?_append_left (by omega)]
 congr 1;omega
theorem q3f {D L M:List α} {x y:α} {n m:Nat} (h:D=L++y::x::M) (hn:n=L.length) (hm:m=n+1):(D.set m y).set n x=L++x::y::M:=by
 subst h hm hn;simp[]
theorem qabi {D L M:List α} {x y:α} {n m:Nat} (h:D=L++y::x::M) (hn:n=L.length) (hm:m=n+1):(D.set n x).set m y=L++x::y::M:=by
 subst h hm hn;simp[]
theorem qaht {D L M N:List α} {x y:α} {n m:Nat} (h:D=L++x::(M++y::N)) (hn:n=L.length) (hm:m=n+1+M.length):(D.set n y).set m x=L++y::(M++x::N):=by
 subst h hm hn
 rw[List.set_append,if_neg (Nat.lt_irrefl _),Nat.sub_self,List.set_cons_zero,List.set_append,if_neg (by omega),show L.length+1+M.length-L.length=M.length+1 by omega,List.set_cons_succ,List.set_append,if_neg (Nat.lt_irrefl _),Nat.sub_self,List.set_cons_zero]
variable {R:α→α→Prop}
theorem cross (tr : ∀a b c,R a b→R b c→R a c) {X Y:List α} (hX:X.Pairwise R) (hY:Y.Pairwise R) (h : ∀u v,X[X.length-1]? = some u→Y[0]? = some v→R u v) : ∀a∈X,∀b∈Y,R a b:=by
 intro a ha b hb
 obtain⟨i,hi⟩:=List.mem_iff_getElem?.1 ha
 obtain⟨j,hj⟩:=List.mem_iff_getElem?.1 hb
 obtain⟨hi',hi⟩:=wy.1 hi
 obtain⟨hj',hj⟩:=wy.1 hj
 rw[List.pairwise_iff_getElem]at hX hY
 have h0:=h _ _ (wp (by omega)) (wp (by omega))
 have h1:R a Y[0]:=by
  by_cases c:i=X.length-1
  ·subst c;rw[←hi];exact h0
  ·exact tr _ _ _ (by rw[←hi];exact hX i (X.length-1) hi' (by omega) (by omega)) h0
 by_cases c:j=0
 ·subst c;rw[←hj];exact h1
 ·exact tr _ _ _ h1 (by rw[←hj];exact hY 0 j (by omega) hj' (by omega))
theorem q9g (tr : ∀a b c,R a b→R b c→R a c) {X1 X2 Y1 Y2 Z1 Z2:List α} (hX:(X1++X2).Pairwise R) (hY:(Y1++Y2).Pairwise R)
  (h1 : ∀u v,X1[X1.length-1]? = some u→Y2[0]? = some v→R u v) (h2 : ∀u v,Y1[Y1.length-1]? = some u→X2[0]? = some v→R u v)
  (p1:Z1.Perm (X1++Y1)) (p2:Z2.Perm (X2++Y2)) (s1:Z1.Pairwise R) (s2:Z2.Pairwise R):(Z1++Z2).Perm (X1++X2++(Y1++Y2))∧(Z1++Z2).Pairwise R:=by
 obtain⟨x1,x2,x3⟩:=wz.1 hX
 obtain⟨y1,y2,y3⟩:=wz.1 hY
 have c1:=cross tr x1 y2 h1
 have c2:=cross tr y1 x2 h2
 refine⟨(p1.append p2).trans ?_,wz.2 ⟨s1,s2,?_⟩⟩
 ·rw[wn,wn]
  refine List.Perm.append_left X1 ?_
  rw[←wn,←wn]
  exact List.Perm.append_right Y2 List.perm_append_comm
 ·intro a ha b hb
  rw[p1.mem_iff,wo]at ha
  rw[p2.mem_iff,wo]at hb
  rcases ha with ha|ha<;>rcases hb with hb|hb
  ·exact x3 a ha b hb
  ·exact c1 a ha b hb
  ·exact c2 a ha b hb
  ·exact y3 a ha b hb
theorem qou (tr : ∀a b c,R a b→R b c→R a c) {A B:List α} {x:α} (h:(A++B).Pairwise R) (h1 : ∀u,A[A.length-1]? = some u→R u x) (h2 : ∀v,B[0]? = some v→R x v):(A++x::B).Pairwise R:=by
 obtain⟨a1,a2,a3⟩:=wz.1 h
 have c1:=cross tr a1 (List.pairwise_singleton R x) (fun u v hu hv=>by simp at hv;subst hv;exact h1 u hu)
 have c2:=cross tr (List.pairwise_singleton R x) a2 (fun u v hu hv=>by simp at hu;subst hu;exact h2 v hv)
 refine wz.2 ⟨a1,wJ.2 ⟨fun b hb=>c2 x (by simp) b hb,a2⟩,fun a ha b hb => ?_⟩
 rcases wA.1 hb with rfl|hb
 ·exact c1 a ha _ (by simp)
 ·exact a3 a ha b hb
inductive Blk (R:α→α→Prop) (s:Nat):List α→Prop
 |last {l:List α}:l.length≤s→l.Pairwise R→Blk R s l
 |more {X Y:List α}:X.length=s→X.Pairwise R→Blk R s Y→Blk R s (X++Y)
theorem Blk.sorted {s:Nat} {l:List α} (h:Blk R s l) (hs:l.length≤s):l.Pairwise R:=by
 cases h with
 |last _ h=>exact h
 | @more X Y h1 h2 h3=>
  rw[wq]at hs
  obtain rfl:=wm (l:=Y) (by omega)
  simpa using h2
theorem Blk.split {s:Nat} {l:List α} (h:Blk R s l) (hs:s<l.length) : ∃X Y,l=X++Y∧X.length=s∧X.Pairwise R∧Blk R s Y:=by
 cases h with
 |last h1 _=>omega
 | @more X Y h1 h2 h3=>exact⟨X,Y,rfl,h1,h2,h3⟩
theorem Blk.nil {s:Nat}:Blk R s ([]:List α):=.last (Nat.zero_le _) .nil
theorem qe1 {f:Env→qf→R3} {s:Env→qf→Option (Env×qf)} {τ:Type} (E:τ→Env) (S:τ→qf) (m:τ→Nat) (Inv:τ→Prop) (Q:CExit×Env×qf→Prop)
  (step : ∀a,Inv a→(∃a',it1 f s (E a) (S a)=some (.inl (E a',S a'))∧Inv a'∧m a'<m a) ∨ ∃y,it1 f s (E a) (S a)=some (.inr y)∧Q y) :
  ∀a,Inv a → ∃y,itB f s (E a) (S a)=some y∧Q y:=by
 have : ∀k a,m a≤k→Inv a → ∃y,itB f s (E a) (S a)=some y∧Q y:=by
  intro k
  induction k with
  |zero=>
   intro a hk ha
   rcases step a ha with ⟨a',h1,h2,h3⟩|⟨y,h1,h2⟩
   ·omega
   ·exact⟨y,qr6 h1,h2⟩
  |succ k ih=>
   intro a hk ha
   rcases step a ha with ⟨a',h1,h2,h3⟩|⟨y,h1,h2⟩
   ·obtain⟨y,h4,h5⟩:=ih a' (by omega) h2
    exact⟨y,qmu h1 h4,h5⟩
   ·exact⟨y,qr6 h1,h2⟩
 exact fun a=>this (m a) a (wK _)
end
end Go.Ev
namespace Go.Proofs.YtfdoelhnnmcppaaGreat.K
open Go.Ev
set_option maxRecDepth 10000
theorem qg4 {a b:Nat} (h:a+b<2^62):IntKind.i64.wrap ((a:Int)+(b:Int))=((a+b:Nat):Int):=by rw[qk (by omega) (by omega)];simp
theorem qge {a:Nat} (h:a<2^62):IntKind.i64.wrap ((a:Int)+1)=((a+1:Nat):Int):=by rw[qk (by omega) (by omega)];simp
theorem qgz {a b c:Nat} (h:a=b+c) (h2:a<2^62):IntKind.i64.wrap ((a:Int)-(b:Int))=(c:Int):=by rw[qk (by omega) (by omega)];omega
theorem qpq {a c:Nat} (h:a=c+1) (h2:a<2^62):IntKind.i64.wrap ((a:Int)-1)=(c:Int):=by rw[qk (by omega) (by omega)];omega
section
variable (g:Nat) (cl:Bool) (n:Nat)
theorem qym (L X M Y N:List Evt) (hXY:Y.length=X.length) (hn:n=(L++(X++(M++(Y++N)))).length) (hb:n<2^61) (a b:Nat) (ha:a=L.length) (hbb:b=L.length+X.length+M.length) :
  (evL T).call qad [.sl 0 g 0 n cl,(ii a),(ii b),(ii X.length),(.fn (.func qd) [] [])] [.row 6 ((L++(X++(M++(Y++N)))).map Evt.r) g]=some (.tup [],[.row 6 ((L++(Y++(M++(X++N)))).map Evt.r) g]):=by
 have hlen:n=L.length+(X.length+(M.length+(Y.length+N.length))):=by rw[hn];simp
 have key:=qh5 (f:=exec (evL T) itL none qc3) (s:=qao [0,1,2,3,10] true 1) (α:=List Evt)
  (fun i D=>⟨[(0,.sl 0 g 0 n cl),(1,(ii a)),(2,(ii b)),(3,(ii X.length)),(10,(ii i))],[]⟩) (fun i D=>[.row 6 ((D).map Evt.r) g])
  (fun i D=>D=L++((Y.take i++X.drop i)++(M++((X.take i++Y.drop i)++N)))) X.length
  (fun y=>y.1 = .exit 0∧y.2.1.marks=[]∧y.2.2=[.row 6 ((L++(Y++(M++(X++N)))).map Evt.r) g]) ?_ ?_ 0 _ (Nat.zero_le _) rfl
 ·obtain⟨⟨y,e,σ⟩,k1,k2,k3,k4⟩:=key
  simp only[zgo,zgg,zgl,wC]at k1 k2 k3 k4
  subst k2;subst k4
  rw[qg ql5 qly]
  simp only[qds,k1,k3,qa1,wg,ql,wl,zgy,↓qc,↓qx,↓we,wf,wc,wd]
 ·rintro i D hi hD
  obtain⟨x,hx⟩ : ∃x,X[i]? = some x:=⟨_,zgE hi⟩
  obtain⟨y,hy⟩ : ∃y,Y[i]? = some y:=⟨_,zgE (by omega)⟩
  have dx:X.drop i=x::X.drop (i+1):=by obtain⟨_,rfl⟩:=zei.1 hx;exact wu hi
  have dy:Y.drop i=y::Y.drop (i+1):=by obtain⟨_,rfl⟩:=zei.1 hy;exact wu (by omega)
  have e1:D=(L++Y.take i)++x::((X.drop (i+1)++(M++X.take i))++y::(Y.drop (i+1)++N)):=by rw[hD,dx,dy];simp
  have l1:a+i=(L++Y.take i).length:=by simp;omega
  have l2:b+i=a+i+1+(X.drop (i+1)++(M++X.take i)).length:=by simp;omega
  have gx:D[a+i]? = some x:=qkj e1 l1
  have gy:D[b+i]? = some y:=by
   refine qkj (L:=(L++Y.take i)++x::(X.drop (i+1)++(M++X.take i))) (M:=Y.drop (i+1)++N) (by rw[e1];simp) ?_
   rw[l2,l1];simp;omega
  have ge:D.length=n:=by rw[e1,hlen];simp;omega
  have sw:=qaht e1 l1 l2
  have hne:¬(a+i=b+i):=by omega
  have hi':(i:Int)<(X.length:Int):=by omega
  have wa:IntKind.i64.wrap ((a:Int)+(i:Int))=((a+i:Nat):Int):=qg4 (by omega)
  have wb:IntKind.i64.wrap ((b:Int)+(i:Int))=((b+i:Nat):Int):=qg4 (by omega)
  have wi:IntKind.i64.wrap ((i:Int)+1)=((i+1:Nat):Int):=qge (by omega)
  have ra:a+i<n:=by omega
  have rb:b+i<n:=by omega
  obtain⟨xt,xk,xl,xi,xp,xa⟩:=x
  obtain⟨yt,yk,yl,yi,yp,ya⟩:=y
  have hs : ∀v,((D.map Evt.r).set (a+i) v)[b+i]? = some (Evt.r ⟨yt,yk,yl,yi,yp,ya⟩):=fun v=>by rw[wr hne,wE,gy];rfl
  have hlo:=qa1 1 ((D.set (a+i) ⟨yt,yk,yl,yi,yp,ya⟩).set (b+i) ⟨xt,xk,xl,xi,xp,xa⟩)
  simp only[wv,Evt.r]at hlo
  refine .inl ⟨(D.set (a+i) ⟨yt,yk,yl,yi,yp,ya⟩).set (b+i) ⟨xt,xk,xl,xi,xp,xa⟩,?_,?_⟩
  ·simp only[qc3,zgs,zgr,zgq,zgt,gx,gy,hs,hi',wa,wb,wi,ra,rb,hlo,wv,Evt.r,wg,Ev.stP,qb,wj,wk,wl,zgy,↓qc,↓we,wf,wc,wd]
  ·rw[sw,qf6 hx,qf6 hy];simp
 ·rintro D hD
  have hD':D=L++(Y++(M++(X++N))):=by rw[hD,←hXY,wH,List.drop_length,hXY,wH,List.drop_length];simp
  subst hD'
  simp only[qc3,ww,wg,zgy,↓qc,↓we,wc,wd]
  exact⟨_,rfl,rfl,rfl,rfl⟩
end
open Go.Ev
set_option maxRecDepth 10000
section
variable (g:Nat) (cl:Bool) (n:Nat)
theorem qw6 (L X M Y N:List Item) (hXY:Y.length=X.length) (hn:n=(L++(X++(M++(Y++N)))).length) (hb:n<2^61) (a b:Nat) (ha:a=L.length) (hbb:b=L.length+X.length+M.length) :
  (evL T).call qas [.sl 0 g 0 n cl,(ii a),(ii b),(ii X.length),(.fn (.func qe) [] [])] [.row 3 ((L++(X++(M++(Y++N)))).map Item.c) g]=some (.tup [],[.row 3 ((L++(Y++(M++(X++N)))).map Item.c) g]):=by
 have hlen:n=L.length+(X.length+(M.length+(Y.length+N.length))):=by rw[hn];simp
 have key:=qh5 (f:=exec (evL T) itL none qd0) (s:=qao [0,1,2,3,10] true 1) (α:=List Item)
  (fun i D=>⟨[(0,.sl 0 g 0 n cl),(1,(ii a)),(2,(ii b)),(3,(ii X.length)),(10,(ii i))],[]⟩) (fun i D=>[.row 3 ((D).map Item.c) g])
  (fun i D=>D=L++((Y.take i++X.drop i)++(M++((X.take i++Y.drop i)++N)))) X.length
  (fun y=>y.1 = .exit 0∧y.2.1.marks=[]∧y.2.2=[.row 3 ((L++(Y++(M++(X++N)))).map Item.c) g]) ?_ ?_ 0 _ (Nat.zero_le _) rfl
 ·obtain⟨⟨y,e,σ⟩,k1,k2,k3,k4⟩:=key
  simp only[zgo,zgg,zgl,wC]at k1 k2 k3 k4
  subst k2;subst k4
  rw[qg qnn qnk]
  simp only[qed,k1,k3,qa0,wg,ql,wl,zgy,↓qc,↓qx,↓we,wf,wc,wd]
 ·rintro i D hi hD
  obtain⟨x,hx⟩ : ∃x,X[i]? = some x:=⟨_,zgE hi⟩
  obtain⟨y,hy⟩ : ∃y,Y[i]? = some y:=⟨_,zgE (by omega)⟩
  have dx:X.drop i=x::X.drop (i+1):=by obtain⟨_,rfl⟩:=zei.1 hx;exact wu hi
  have dy:Y.drop i=y::Y.drop (i+1):=by obtain⟨_,rfl⟩:=zei.1 hy;exact wu (by omega)
  have e1:D=(L++Y.take i)++x::((X.drop (i+1)++(M++X.take i))++y::(Y.drop (i+1)++N)):=by rw[hD,dx,dy];simp
  have l1:a+i=(L++Y.take i).length:=by simp;omega
  have l2:b+i=a+i+1+(X.drop (i+1)++(M++X.take i)).length:=by simp;omega
  have gx:D[a+i]? = some x:=qkj e1 l1
  have gy:D[b+i]? = some y:=by
   refine qkj (L:=(L++Y.take i)++x::(X.drop (i+1)++(M++X.take i))) (M:=Y.drop (i+1)++N) (by rw[e1];simp) ?_
   rw[l2,l1];simp;omega
  have ge:D.length=n:=by rw[e1,hlen];simp;omega
  have sw:=qaht e1 l1 l2
  have hne:¬(a+i=b+i):=by omega
  have hi':(i:Int)<(X.length:Int):=by omega
  have wa:IntKind.i64.wrap ((a:Int)+(i:Int))=((a+i:Nat):Int):=qg4 (by omega)
  have wb:IntKind.i64.wrap ((b:Int)+(i:Int))=((b+i:Nat):Int):=qg4 (by omega)
  have wi:IntKind.i64.wrap ((i:Int)+1)=((i+1:Nat):Int):=qge (by omega)
  have ra:a+i<n:=by omega
  have rb:b+i<n:=by omega
  obtain⟨xt,xk,xl⟩:=x
  obtain⟨yt,yk,yl⟩:=y
  have hs : ∀v,((D.map Item.c).set (a+i) v)[b+i]? = some (Item.c ⟨yt,yk,yl⟩):=fun v=>by rw[wr hne,wE,gy];rfl
  have hlo:=qa0 1 ((D.set (a+i) ⟨yt,yk,yl⟩).set (b+i) ⟨xt,xk,xl⟩)
  simp only[wv,Item.c]at hlo
  refine .inl ⟨(D.set (a+i) ⟨yt,yk,yl⟩).set (b+i) ⟨xt,xk,xl⟩,?_,?_⟩
  ·simp only[qd0,zgs,zgr,zgq,zgt,gx,gy,hs,hi',wa,wb,wi,ra,rb,hlo,wv,Item.c,wg,Ev.stP,qb,wj,wk,wl,zgy,↓qc,↓we,wf,wc,wd]
  ·rw[sw,qf6 hx,qf6 hy];simp
 ·rintro D hD
  have hD':D=L++(Y++(M++(X++N))):=by rw[hD,←hXY,wH,List.drop_length,hXY,wH,List.drop_length];simp
  subst hD'
  simp only[qd0,ww,wg,zgy,↓qc,↓we,wc,wd]
  exact⟨_,rfl,rfl,rfl,rfl⟩
end
open Go.Ev
set_option maxRecDepth 10000
section
variable (g:Nat) (cl:Bool) (n:Nat)
def qi1 (D:List Item):Prop:=∀x∈D,x.key.length≤9223372036854775807
theorem q6j (P S Q:List Item) (x:Item) (hn:n=(P++(S++x::Q)).length) (hb:n<2^61) (hk:qi1 (P++(S++x::Q))) (hS:S.Pairwise qm2) (a:Nat) (ha:a=P.length) (b i:Int) :
  ∃y,itB (exec (evL T) itL none qbz) (qao [0,1,2,3,8,9] true 1) ⟨[(0,.sl 0 g 0 n cl),(1,(ii a)),(2,(ii b)),(3,(.fn (.func qe) [] [])),(8,(ii i)),(9,(ii ((a+S.length:Nat))))],[]⟩ [.row 3 ((P++(S++x::Q)).map Item.c) g]=some y ∧
   (y.1 = .exit 2∧y.2.1.marks=[]∧wh y.2.1.vars 0=some (.sl 0 g 0 n cl)∧wh y.2.1.vars 1=some (ii a)∧wh y.2.1.vars 2=some (ii b)∧wh y.2.1.vars 3=some (.fn (.func qe) [] [])∧wh y.2.1.vars 8=some (ii i) ∧ ∃S':List Item,S'.Perm (x::S)∧S'.Pairwise qm2∧y.2.2=[.row 3 ((P++(S'++Q)).map Item.c) g]):=by
 refine qe1 (τ:=List Item×Nat) (fun s=>⟨[(0,.sl 0 g 0 n cl),(1,(ii a)),(2,(ii b)),(3,(.fn (.func qe) [] [])),(8,(ii i)),(9,(ii s.2))],[]⟩) (fun s=>[.row 3 ((s.1).map Item.c) g]) (fun s=>s.2)
  (fun s => ∃A B,s.1=P++(A++x::(B++Q))∧s.2=a+A.length∧A++B=S ∧ ∀v,B[0]? = some v→qm2 x v) _ ?_ (P++(S++x::Q),a+S.length) ⟨S,[],by simp,rfl,by simp,by simp⟩
 rintro⟨D,j⟩ ⟨A,B,hD,hj,hAB,hB⟩
 simp only at hD hj⊢
 have hlen:n=P.length+(S.length+(Q.length+1)):=by rw[hn];simp
 have hSl:S.length=A.length+B.length:=by rw[←hAB];simp
 have fin:(∀u,A[A.length-1]? = some u→qm2 u x) → ∃S':List Item,S'.Perm (x::S)∧S'.Pairwise qm2∧([.row 3 ((D).map Item.c) g]:qf)=[.row 3 ((P++(S'++Q)).map Item.c) g]:=fun h=>by
  refine⟨A++x::B,?_,qou qzn (by rw[hAB];exact hS) h hB,by rw[hD];simp⟩
  rw[←hAB];exact List.perm_middle
 rcases List.eq_nil_or_concat A with rfl|⟨A0,y,rfl⟩
 ·have h1:¬(j:Int)>(a:Int):=by simp at hj;omega
  refine .inr ?_
  simp only[qbz,h1,wg,zgy,↓qc,↓we,wc,wd]
  exact⟨_,rfl,rfl,rfl,rfl,rfl,rfl,rfl,rfl,fin (by simp)⟩
 ·simp only[List.concat_eq_append,zgp,zga,zgb]at hD hj hSl hAB fin
  obtain⟨k,hk1⟩ : ∃k,k=a+A0.length:=⟨_,rfl⟩
  have hjk:j=k+1:=by omega
  have h1:(j:Int)>(a:Int):=by omega
  have e1:D=(P++A0)++y::x::(B++Q):=by rw[hD];simp
  have l1:k=(P++A0).length:=by simp;omega
  have gy:D[k]? = some y:=qkj e1 l1
  have gx:D[j]? = some x:=qkj (L:=P++A0++[y]) (M:=B++Q) (by rw[e1];simp) (by simp;omega)
  have ge:D.length=n:=by rw[e1,hlen];simp;omega
  have ws:IntKind.i64.wrap ((j:Int)-1)=(k:Int):=qpq hjk (by omega)
  have rj:j<n:=by omega
  have rk:k<n:=by omega
  have kx:x.key.length≤9223372036854775807:=hk x (by simp)
  have ky:y.key.length≤9223372036854775807:=hk y (by rw[←hAB];simp)
  have hc:=ql1 x y kx ky 3 (D.map Item.c) g
  have sw:=q3f e1 l1 hjk
  have hne:¬(j=k):=by omega
  by_cases hlt:q36 x y<0
  ·left
   have hle:=qab9 x y hlt
   obtain⟨x',rfl⟩ : ∃z,x=z:=⟨x,rfl⟩
   have hlo:=qa0 1 ((D.set j y).set k x)
   refine⟨((D.set j y).set k x,k),?_,⟨A0,y::B,by rw[sw];simp,hk1,by rw[←hAB];simp,fun v hv=>by simp at hv;rw[←hv];exact hle⟩,by simp only;omega⟩
   obtain⟨xt,xk,xl⟩:=x
   obtain⟨yt,yk,yl⟩:=y
   have hs : ∀v,((D.map Item.c).set j v)[k]? = some (Item.c ⟨yt,yk,yl⟩):=fun v=>by rw[wr hne,wE,gy];rfl
   simp only[wv,Item.c]at hlo
   simp only at hc
   simp only[qbz,zgs,zgr,zgq,zgt,gx,gy,hs,h1,ws,rj,rk,hc,hlt,hlo,wv,Item.c,wg,Ev.stP,qb,wj,wk,wl,zgy,↓qc,↓we,wf,wc,wd]
  ·right
   have hf:=fin (fun u hu=>by simp at hu;rw[←hu];exact qxa x y hlt)
   obtain⟨xt,xk,xl⟩:=x
   obtain⟨yt,yk,yl⟩:=y
   simp only at hc
   simp only[qbz,zgs,zgr,zgq,zgt,gx,gy,h1,ws,rj,rk,hc,hlt,Item.c,wg,qb,zgy,↓qc,↓we,wf,wc,wd]
   exact⟨_,rfl,rfl,rfl,rfl,rfl,rfl,rfl,rfl,hf⟩
theorem q2d (P S Q:List Item) (hn:n=(P++(S++Q)).length) (hb:n<2^61) (hk:qi1 (P++(S++Q))) (a b:Nat) (ha:a=P.length) (hbb:b=a+S.length) :
  ∃S':List Item,S'.Perm S∧S'.Pairwise qm2∧(evL T).call qam [.sl 0 g 0 n cl,(ii a),(ii b),(.fn (.func qe) [] [])] [.row 3 ((P++(S++Q)).map Item.c) g]=some (.tup [],[.row 3 ((P++(S'++Q)).map Item.c) g]):=by
 have hlen:n=P.length+(S.length+Q.length):=by rw[hn];simp
 have key:=qe1 (f:=exec (evL T) itL none qby) (s:=qao [0,1,2,3,8] true 1) (τ:=List Item×Nat)
  (fun s=>⟨[(0,.sl 0 g 0 n cl),(1,(ii a)),(2,(ii b)),(3,(.fn (.func qe) [] [])),(8,(ii s.2))],[]⟩) (fun s=>[.row 3 ((s.1).map Item.c) g]) (fun s=>b-s.2)
  (fun s=>(∃A B,s.1=P++(A++(B++Q))∧s.2=a+A.length∧(A++B).Perm S∧A.Pairwise qm2)∨S=[]∧s.1=P++Q∧s.2=a+1)
  (fun y=>y.1 = .exit 0∧y.2.1.marks=[] ∧ ∃S':List Item,S'.Perm S∧S'.Pairwise qm2∧y.2.2=[.row 3 ((P++(S'++Q)).map Item.c) g]) ?_ (P++(S++Q),a+1) ?_
 ·obtain⟨⟨y,e,σ⟩,k1,k2,k3,S',k4,k5,k6⟩:=key
  simp only at k1 k2 k3 k6
  subst k2;subst k6
  refine⟨S',k4,k5,?_⟩
  have w1:IntKind.i64.wrap ((a:Int)+1)=((a+1:Nat):Int):=qge (by omega)
  rw[qg ql6 qlw]
  simp only[qdu,w1,k1,k3,qa0,wg,ql,wl,zgy,↓qc,↓qx,↓we,wf,wc,wd]
 ·rintro⟨D,i⟩ (⟨A,B,hD,hi,hAB,hA⟩|⟨hS,hD,hi⟩)
  ·simp only at hD hi⊢
   have hl:=hAB.length_eq
   rw[wq]at hl
   cases B with
   |nil=>
    have h1:¬(i:Int)<(b:Int):=by simp at hl;omega
    right
    simp only[qby,h1,wg,zgy,↓qc,↓we,wc,wd]
    exact⟨_,rfl,rfl,rfl,A,by simpa using hAB,hA,by rw[hD];simp⟩
   |cons x B=>
    rw[wI]at hl
    have h1:(i:Int)<(b:Int):=by omega
    have hkD:qi1 (P++(A++x::(B++Q))):=by
     intro z hz
     refine hk z ?_
     simp only[wo,wA]at hz⊢
     have:=hAB.mem_iff (a:=z)
     simp only[wo,wA]at this
     rcases hz with h|h|h|h|h
     ·exact .inl h
     ·exact .inr (.inl (this.1 (.inl h)))
     ·exact .inr (.inl (this.1 (.inr (.inl h))))
     ·exact .inr (.inl (this.1 (.inr (.inr h))))
     ·exact .inr (.inr h)
    obtain⟨⟨y,e,σ⟩,k1,k2,k3,k4,k5,k6,k7,k8,S',k9,k10,k11⟩:=q6j g cl n P A (B++Q) x (by rw[hlen];simp;omega) hb hkD hA a ha b i
    simp only at k1 k2 k3 k4 k5 k6 k7 k8 k11
    subst k2;subst k11
    have w1:IntKind.i64.wrap ((i:Int)+1)=((i+1:Nat):Int):=qge (by omega)
    left
    refine⟨(P++(S'++(B++Q)),i+1),?_,.inl ⟨S',B,rfl,?_,?_,k10⟩,?_⟩
    ·rw[←hi]at k1
     rw[hD]
     simp only[zgm]at k1⊢
     simp only[qby,h1,w1,k1,k3,k4,k5,k6,k7,k8,qa0,wg,wl,zgy,↓qc,↓qx,↓we,wc,wd]
    ·have:=k9.length_eq;rw[wI]at this;simp only;omega
    ·exact((k9.append_right B).trans List.perm_middle.symm).trans hAB
    ·simp only;omega
  ·simp only at hD hi⊢
   subst hS
   have h1:¬(i:Int)<(b:Int):=by simp at hbb;omega
   right
   simp only[qby,h1,wg,zgy,↓qc,↓we,wc,wd]
   exact⟨_,rfl,rfl,rfl,[],List.Perm.nil,List.Pairwise.nil,by rw[hD];simp⟩
 ·cases S with
  |nil=>exact .inr ⟨rfl,by simp,rfl⟩
  |cons x S=>exact .inl ⟨[x],S,by simp,by simp,by simp,List.pairwise_singleton _ _⟩
end
open Go.Ev
set_option maxRecDepth 10000
section
variable (g:Nat) (cl:Bool) (n:Nat)
theorem qajx (L X Y N:List Item) (hX:0<X.length) (hY:0<Y.length) (hn:n=(L++(X++(Y++N))).length) (hb:n<2^61) (a m b:Nat) (ha:a=L.length) (hm:m=a+X.length) (hbb:b=m+Y.length) :
  (evL T).call qbg [.sl 0 g 0 n cl,(ii a),(ii m),(ii b),(.fn (.func qe) [] [])] [.row 3 ((L++(X++(Y++N))).map Item.c) g]=some (.tup [],[.row 3 ((L++(Y++(X++N))).map Item.c) g]):=by
 have hlen:n=L.length+(X.length+(Y.length+N.length)):=by rw[hn];simp
 have key:=qe1 (f:=exec (evL T) itL none qdc) (s:=qao [0,2,4,10,11] true 1) (τ:=List Item×Nat×Nat)
  (fun s=>⟨[(0,.sl 0 g 0 n cl),(2,(ii m)),(4,(.fn (.func qe) [] [])),(10,(ii s.2.1)),(11,(ii s.2.2))],[]⟩) (fun s=>[.row 3 ((s.1).map Item.c) g]) (fun s=>s.2.1+s.2.2)
  (fun s => ∃L' X' Y' N',s.1=L'++(X'++(Y'++N'))∧s.2.1=X'.length∧s.2.2=Y'.length∧0<X'.length∧0<Y'.length∧m=L'.length+X'.length∧L'++(Y'++(X'++N'))=L++(Y++(X++N)))
  (fun y => ∃i:Nat,y.1 = .exit 0∧y.2.1.marks=[]∧wh y.2.1.vars 0=some (.sl 0 g 0 n cl)∧wh y.2.1.vars 2=some (ii m)∧wh y.2.1.vars 4=some (.fn (.func qe) [] [])∧wh y.2.1.vars 10=some (ii i) ∧
   ∃L' X' Y' N':List Item,y.2.2=[.row 3 ((L'++(X'++(Y'++N'))).map Item.c) g]∧i=X'.length∧i=Y'.length∧m=L'.length+X'.length∧L'++(Y'++(X'++N'))=L++(Y++(X++N))) ?_ (L++(X++(Y++N)),X.length,Y.length) ⟨L,X,Y,N,rfl,rfl,rfl,hX,hY,by omega,rfl⟩
 ·obtain⟨⟨y,e,σ⟩,k1,i,k2,k3,k4,k5,k6,k7,L',X',Y',N',k8,k9,k10,k11,k12⟩:=key
  simp only at k1 k2 k3 k4 k5 k6 k7 k8
  subst k2;subst k8
  have hl2:=congrArg List.length k12
  simp only[zgp]at hl2
  have w1:IntKind.i64.wrap ((m:Int)-(a:Int))=(X.length:Int):=qgz hm (by omega)
  have w2:IntKind.i64.wrap ((b:Int)-(m:Int))=(Y.length:Int):=qgz hbb (by omega)
  have w3:IntKind.i64.wrap ((m:Int)-(i:Int))=(L'.length:Int):=qgz (by omega) (by omega)
  have sw:=qw6 g cl n L' X' [] Y' N' (by omega) (by simp;omega) hb L'.length m rfl (by simp;omega)
  simp only[zgl]at sw
  rw[←k9,k12]at sw
  rw[qg qpg qoy]
  simp only[qfc,w1,w2,w3,k1,k3,k4,k5,k6,k7,sw,qa0,wg,ql,wl,zgy,↓qc,↓qx,↓we,wf,wc,wd]
 ·rintro⟨D,i,j⟩ ⟨L',X',Y',N',hD,hi,hj,hX',hY',hm',heq⟩
  simp only at hD hi hj⊢
  have hl2:=congrArg List.length heq
  simp only[zgp]at hl2
  by_cases hij:i=j
  ·right
   have h1:(i:Int)=(j:Int):=by omega
   subst hij
   simp only[qdc,wg,ne_eq,zgy,↓qc,↓we,wc,wd]
   exact⟨_,rfl,i,rfl,rfl,rfl,rfl,rfl,rfl,L',X',Y',N',by rw[hD],hi,hj,hm',heq⟩
  have h1:¬(i:Int)=(j:Int):=by omega
  left
  by_cases hgt:j<i
  ·have h2:(i:Int)>(j:Int):=by omega
   obtain⟨X1,X2,rfl,hX1⟩ : ∃X1 X2,X'=X1++X2∧X1.length=j:=⟨X'.take j,X'.drop j,(wx _ _).symm,by simp;omega⟩
   rw[wq]at hi hX' hm' hl2
   have sw:=qw6 g cl n L' X1 X2 Y' N' (by omega) (by simp;omega) hb L'.length m rfl (by omega)
   rw[show L'++(X1++(X2++(Y'++N')))=D by rw[hD];simp,hX1]at sw
   have w3:IntKind.i64.wrap ((m:Int)-(i:Int))=(L'.length:Int):=qgz (by omega) (by omega)
   have w4:IntKind.i64.wrap ((i:Int)-(j:Int))=(X2.length:Int):=qgz (by omega) (by omega)
   refine⟨(L'++(Y'++(X2++(X1++N'))),X2.length,j),?_,⟨L'++Y',X2,X1,N',by simp,rfl,hX1.symm,by omega,by omega,by simp;omega,by rw[←heq];simp⟩,by first|omega|(simp only;omega)⟩
   simp only[qdc,h1,h2,w3,w4,sw,qa0,wg,wl,ne_eq,zgy,↓qc,↓we,wc,wd]
  ·have h2:¬(i:Int)>(j:Int):=by omega
   obtain⟨Y1,Y2,rfl,hY2⟩ : ∃Y1 Y2,Y'=Y1++Y2∧Y2.length=i:=⟨Y'.take (j-i),Y'.drop (j-i),(wx _ _).symm,by simp;omega⟩
   rw[wq]at hj hY' hl2
   have sw:=qw6 g cl n L' X' Y1 Y2 N' (by omega) (by simp;omega) hb L'.length (m+Y1.length) rfl (by omega)
   rw[show L'++(X'++(Y1++(Y2++N')))=D by rw[hD];simp,←hi]at sw
   have w3:IntKind.i64.wrap ((m:Int)-(i:Int))=(L'.length:Int):=qgz (by omega) (by omega)
   have w4:IntKind.i64.wrap ((m:Int)+(j:Int))=((m+j:Nat):Int):=qg4 (by omega)
   have w5:IntKind.i64.wrap (((m+j:Nat):Int)-(i:Int))=((m+Y1.length:Nat):Int):=qgz (by omega) (by omega)
   have w6:IntKind.i64.wrap ((j:Int)-(i:Int))=(Y1.length:Int):=qgz (by omega) (by omega)
   refine⟨(L'++(Y2++(Y1++(X'++N'))),i,Y1.length),?_,⟨L',Y2,Y1,X'++N',rfl,hY2.symm,rfl,by omega,by omega,by omega,by rw[←heq];simp⟩,by first|omega|(simp only;omega)⟩
   simp only[qdc,h1,h2,w3,w4,w5,w6,sw,qa0,wg,wl,ne_eq,zgy,↓qc,↓we,wc,wd]
end
open Go.Ev
set_option maxRecDepth 10000
theorem q27 (s h:Nat) (hh:h=s / 2):qn2 .shr (.v (.int .u64 (s:Int))) (.v (.int .u64 1))=some (.v (.int .u64 (h:Int))):=by
 subst hh
 show (if (1:Int)<0 then none else some (AV.v (.int .u64 ((s:Int).fdiv (2^(min (1:Int).toNat IntKind.u64.bits)))))) = _
 rw[if_neg (by omega),show (2:Int)^(min (1:Int).toNat IntKind.u64.bits)=2 from rfl,Int.fdiv_eq_ediv_of_nonneg _ (by omega)]
 rw[show (s:Int) / 2=((s / 2:Nat):Int) by omega]
theorem qzu {n:Nat} (h:n<2^63):IntKind.u64.wrap (n:Int)=(n:Int):=by
 have h3:IntKind.u64.bits=64:=rfl
 have h4:IntKind.u64.signed=false:=rfl
 simp only[IntKind.wrap,h3,h4,Bool.false_and,zfa,if_false]
 omega
theorem qzx {n:Nat} (h:n<2^63):IntKind.i64.wrap (n:Int)=(n:Int):=qk (by omega) (by omega)
section
variable (g:Nat) (cl:Bool) (n:Nat)
theorem qafw (D:List Item) (x:Item) (hn:n=D.length) (hb:n<2^61) (hk:qi1 D) (a m b:Nat) (ha:D[a]? = some x) (hmb:m≤b) (hbn:b≤n) (han:a<n) :
  ∃y,itB (exec (evL T) itL none qcv) (qao [0,1,4,10,11] true 1) ⟨[(0,.sl 0 g 0 n cl),(1,(ii a)),(4,(.fn (.func qe) [] [])),(10,(ii m)),(11,(ii b))],[]⟩ [.row 3 ((D).map Item.c) g]=some y ∧
   ∃i:Nat,y.1 = .exit 0∧y.2.1.marks=[]∧y.2.2=[.row 3 ((D).map Item.c) g]∧wh y.2.1.vars 0=some (.sl 0 g 0 n cl)∧wh y.2.1.vars 1=some (ii a)∧wh y.2.1.vars 10=some (ii i)∧m≤i∧i≤b∧(i=m ∨ ∀v,D[i-1]? = some v→qm2 v x)∧(i=b ∨ ∀v,D[i]? = some v→qm2 x v):=by
 refine qe1 (τ:=Nat×Nat) (fun s=>⟨[(0,.sl 0 g 0 n cl),(1,(ii a)),(4,(.fn (.func qe) [] [])),(10,(ii s.1)),(11,(ii s.2))],[]⟩) (fun _=>[.row 3 ((D).map Item.c) g]) (fun s=>s.2-s.1)
  (fun s=>m≤s.1∧s.1≤s.2∧s.2≤b∧(s.1=m ∨ ∀v,D[s.1-1]? = some v→qm2 v x)∧(s.2=b ∨ ∀v,D[s.2]? = some v→qm2 x v)) _ ?_ (m,b) ⟨wK _,hmb,wK _,.inl rfl,.inl rfl⟩
 rintro⟨i,j⟩ ⟨h1,h2,h3,h4,h5⟩
 simp only at h1 h2 h3 h4 h5⊢
 by_cases hij:i<j
 case neg=>
  have c1:¬(i:Int)<(j:Int):=by omega
  right
  simp only[qcv,c1,wg,zgy,↓qc,↓we,wc,wd]
  refine⟨_,rfl,i,rfl,rfl,rfl,rfl,rfl,rfl,h1,by omega,h4,?_⟩
  obtain rfl:i=j:=by omega
  exact h5
 obtain⟨h,hh⟩ : ∃h,h=(i+j) / 2:=⟨_,rfl⟩
 have c1:(i:Int)<(j:Int):=by omega
 obtain⟨y,hy⟩ : ∃y,D[h]? = some y:=⟨_,zgE (by omega)⟩
 have w1:IntKind.i64.wrap ((i:Int)+(j:Int))=((i+j:Nat):Int):=qg4 (by omega)
 have w2:IntKind.u64.wrap ((i+j:Nat):Int)=((i+j:Nat):Int):=qzu (by omega)
 have w3:=q27 (i+j) h hh
 have w4:IntKind.i64.wrap (h:Int)=(h:Int):=qzx (by omega)
 have w5:IntKind.i64.wrap ((h:Int)+1)=((h+1:Nat):Int):=qge (by omega)
 have rh:h<n:=by omega
 have kx:x.key.length≤9223372036854775807:=hk x (zmg ha)
 have ky:y.key.length≤9223372036854775807:=hk y (zmg hy)
 have hc:=ql1 y x ky kx 3 (D.map Item.c) g
 left
 by_cases hlt:q36 y x<0
 ·refine⟨(h+1,j),?_,⟨by simp only;omega,by simp only;omega,h3,.inr fun v hv => ?_,h5⟩,by simp only;omega⟩
  ·obtain⟨xt,xk,xl⟩:=x
   obtain⟨yt,yk,yl⟩:=y
   simp only at hc
   simp only[qcv,zgs,zgr,zgq,zgt,ha,hy,c1,w1,w2,w3,w4,w5,rh,han,hc,hlt,Item.c,qa0,wg,qb,wl,zgy,↓qc,↓we,wf,wc,wd]
  ·simp only[Nat.add_sub_cancel]at hv
   rw[hy]at hv;cases hv;exact qab9 y x hlt
 ·refine⟨(i,h),?_,⟨h1,by simp only;omega,by simp only;omega,h4,.inr fun v hv => ?_⟩,by simp only;omega⟩
  ·obtain⟨xt,xk,xl⟩:=x
   obtain⟨yt,yk,yl⟩:=y
   simp only at hc
   simp only[qcv,zgs,zgr,zgq,zgt,ha,hy,c1,w1,w2,w3,w4,rh,han,hc,hlt,Item.c,qa0,wg,qb,wl,zgy,↓qc,↓we,wf,wc,wd]
  ·simp only at hv
   rw[hy]at hv;cases hv;exact qxa y x hlt
theorem qaew (D:List Item) (x:Item) (hn:n=D.length) (hb:n<2^61) (hk:qi1 D) (a m:Nat) (hm:D[m]? = some x) (ham:a≤m) (hmn:m<n) :
  ∃y,itB (exec (evL T) itL none qcw) (qao [0,2,4,14,15] true 1) ⟨[(0,.sl 0 g 0 n cl),(2,(ii m)),(4,(.fn (.func qe) [] [])),(14,(ii a)),(15,(ii m))],[]⟩ [.row 3 ((D).map Item.c) g]=some y ∧
   ∃i:Nat,y.1 = .exit 4∧y.2.1.marks=[]∧y.2.2=[.row 3 ((D).map Item.c) g]∧wh y.2.1.vars 0=some (.sl 0 g 0 n cl)∧wh y.2.1.vars 2=some (ii m)∧wh y.2.1.vars 14=some (ii i)∧a≤i∧i≤m∧(i=a ∨ ∀v,D[i-1]? = some v→qm2 v x)∧(i=m ∨ ∀v,D[i]? = some v→qm2 x v):=by
 refine qe1 (τ:=Nat×Nat) (fun s=>⟨[(0,.sl 0 g 0 n cl),(2,(ii m)),(4,(.fn (.func qe) [] [])),(14,(ii s.1)),(15,(ii s.2))],[]⟩) (fun _=>[.row 3 ((D).map Item.c) g]) (fun s=>s.2-s.1)
  (fun s=>a≤s.1∧s.1≤s.2∧s.2≤m∧(s.1=a ∨ ∀v,D[s.1-1]? = some v→qm2 v x)∧(s.2=m ∨ ∀v,D[s.2]? = some v→qm2 x v)) _ ?_ (a,m) ⟨wK _,ham,wK _,.inl rfl,.inl rfl⟩
 rintro⟨i,j⟩ ⟨h1,h2,h3,h4,h5⟩
 simp only at h1 h2 h3 h4 h5⊢
 by_cases hij:i<j
 case neg=>
  have c1:¬(i:Int)<(j:Int):=by omega
  right
  simp only[qcw,c1,wg,zgy,↓qc,↓we,wc,wd]
  refine⟨_,rfl,i,rfl,rfl,rfl,rfl,rfl,rfl,h1,by omega,h4,?_⟩
  obtain rfl:i=j:=by omega
  exact h5
 obtain⟨h,hh⟩ : ∃h,h=(i+j) / 2:=⟨_,rfl⟩
 have c1:(i:Int)<(j:Int):=by omega
 obtain⟨y,hy⟩ : ∃y,D[h]? = some y:=⟨_,zgE (by omega)⟩
 have w1:IntKind.i64.wrap ((i:Int)+(j:Int))=((i+j:Nat):Int):=qg4 (by omega)
 have w2:IntKind.u64.wrap ((i+j:Nat):Int)=((i+j:Nat):Int):=qzu (by omega)
 have w3:=q27 (i+j) h hh
 have w4:IntKind.i64.wrap (h:Int)=(h:Int):=qzx (by omega)
 have w5:IntKind.i64.wrap ((h:Int)+1)=((h+1:Nat):Int):=qge (by omega)
 have rh:h<n:=by omega
 have kx:x.key.length≤9223372036854775807:=hk x (zmg hm)
 have ky:y.key.length≤9223372036854775807:=hk y (zmg hy)
 have hc:=ql1 x y kx ky 3 (D.map Item.c) g
 left
 by_cases hlt:q36 x y<0
 ·refine⟨(i,h),?_,⟨h1,by simp only;omega,by simp only;omega,h4,.inr fun v hv => ?_⟩,by simp only;omega⟩
  ·obtain⟨xt,xk,xl⟩:=x
   obtain⟨yt,yk,yl⟩:=y
   simp only at hc
   simp only[qcw,zgs,zgr,zgq,zgt,hm,hy,c1,w1,w2,w3,w4,rh,hmn,hc,hlt,Item.c,qa0,wg,qb,wl,zgy,↓qc,↓we,wf,wc,wd]
  ·simp only at hv
   rw[hy]at hv;cases hv;exact qab9 x y hlt
 ·refine⟨(h+1,j),?_,⟨by simp only;omega,by simp only;omega,h3,.inr fun v hv => ?_,h5⟩,by simp only;omega⟩
  ·obtain⟨xt,xk,xl⟩:=x
   obtain⟨yt,yk,yl⟩:=y
   simp only at hc
   simp only[qcw,zgs,zgr,zgq,zgt,hm,hy,c1,w1,w2,w3,w4,w5,rh,hmn,hc,hlt,Item.c,qa0,wg,qb,wl,zgy,↓qc,↓we,wf,wc,wd]
  ·simp only[Nat.add_sub_cancel]at hv
   rw[hy]at hv;cases hv;exact qxa x y hlt
theorem qaff (D:List Item) (hn:n=D.length) (hb:n<2^61) (hk:qi1 D) (a m b mid nn p lo hi:Nat) (hp:nn=p+1) (hlh:lo≤hi) (hdom : ∀c,lo≤c→c<hi→c<n∧c≤p∧p-c<n) (hnn:nn<2^62) (hhn:hi≤n) :
  ∃y,itB (exec (evL T) itL none qbw) (qao [0,1,2,3,4,18,19,20,21,22] true 1) ⟨[(0,.sl 0 g 0 n cl),(1,(ii a)),(2,(ii m)),(3,(ii b)),(4,(.fn (.func qe) [] [])),(18,(ii mid)),(19,(ii nn)),(20,(ii lo)),(21,(ii hi)),(22,(ii p))],[]⟩ [.row 3 ((D).map Item.c) g]=some y ∧
   ∃i:Nat,y.1 = .exit 8∧y.2.1.marks=[]∧y.2.2=[.row 3 ((D).map Item.c) g]∧wh y.2.1.vars 0=some (.sl 0 g 0 n cl)∧wh y.2.1.vars 1=some (ii a)∧wh y.2.1.vars 2=some (ii m)∧wh y.2.1.vars 3=some (ii b)∧wh y.2.1.vars 4=some (.fn (.func qe) [] [])∧wh y.2.1.vars 18=some (ii mid) ∧
    wh y.2.1.vars 19=some (ii nn)∧wh y.2.1.vars 20=some (ii i)∧lo≤i∧i≤hi∧(i=lo ∨ ∀u v,D[i-1]? = some u→D[p-(i-1)]? = some v→qm2 u v)∧(i=hi ∨ ∀u v,D[p-i]? = some u→D[i]? = some v→qm2 u v):=by
 refine qe1 (τ:=Nat×Nat) (fun s=>⟨[(0,.sl 0 g 0 n cl),(1,(ii a)),(2,(ii m)),(3,(ii b)),(4,(.fn (.func qe) [] [])),(18,(ii mid)),(19,(ii nn)),(20,(ii s.1)),(21,(ii s.2)),(22,(ii p))],[]⟩) (fun _=>[.row 3 ((D).map Item.c) g]) (fun s=>s.2-s.1)
  (fun s=>lo≤s.1∧s.1≤s.2∧s.2≤hi∧(s.1=lo ∨ ∀u v,D[s.1-1]? = some u→D[p-(s.1-1)]? = some v→qm2 u v)∧(s.2=hi ∨ ∀u v,D[p-s.2]? = some u→D[s.2]? = some v→qm2 u v)) _ ?_ (lo,hi) ⟨wK _,hlh,wK _,.inl rfl,.inl rfl⟩
 rintro⟨i,j⟩ ⟨h1,h2,h3,h4,h5⟩
 simp only at h1 h2 h3 h4 h5⊢
 by_cases hij:i<j
 case neg=>
  have c1:¬(i:Int)<(j:Int):=by omega
  right
  simp only[qbw,c1,wg,zgy,↓qc,↓we,wc,wd]
  refine⟨_,rfl,i,rfl,rfl,rfl,rfl,rfl,rfl,rfl,rfl,rfl,rfl,rfl,h1,by omega,h4,?_⟩
  obtain rfl:i=j:=by omega
  exact h5
 obtain⟨h,hh⟩ : ∃h,h=(i+j) / 2:=⟨_,rfl⟩
 have c1:(i:Int)<(j:Int):=by omega
 obtain⟨d1,d2,d3⟩:=hdom h (by omega) (by omega)
 obtain⟨q,hq⟩ : ∃q,q=p-h:=⟨_,rfl⟩
 obtain⟨y,hy⟩ : ∃y,D[h]? = some y:=⟨_,zgE (by omega)⟩
 obtain⟨x,hx⟩ : ∃x,D[q]? = some x:=⟨_,zgE (by omega)⟩
 have w1:IntKind.i64.wrap ((i:Int)+(j:Int))=((i+j:Nat):Int):=qg4 (by omega)
 have w2:IntKind.u64.wrap ((i+j:Nat):Int)=((i+j:Nat):Int):=qzu (by omega)
 have w3:=q27 (i+j) h hh
 have w4:IntKind.i64.wrap (h:Int)=(h:Int):=qzx (by omega)
 have w5:IntKind.i64.wrap ((h:Int)+1)=((h+1:Nat):Int):=qge (by omega)
 have w6:IntKind.i64.wrap ((p:Int)-(h:Int))=(q:Int):=qgz (by omega) (by omega)
 have rq:q<n:=by omega
 have kx:x.key.length≤9223372036854775807:=hk x (zmg hx)
 have ky:y.key.length≤9223372036854775807:=hk y (zmg hy)
 have hc:=ql1 x y kx ky 3 (D.map Item.c) g
 left
 by_cases hlt:q36 x y<0
 ·refine⟨(i,h),?_,⟨h1,by simp only;omega,by simp only;omega,h4,.inr fun u v hu hv => ?_⟩,by simp only;omega⟩
  ·obtain⟨xt,xk,xl⟩:=x
   obtain⟨yt,yk,yl⟩:=y
   simp only at hc
   simp only[qbw,zgs,zgr,zgq,zgt,hx,hy,c1,w1,w2,w3,w4,w6,d1,rq,hc,hlt,Item.c,qa0,wg,qb,wl,zgy,↓qc,↓we,wf,wc,wd]
  ·simp only at hu hv
   rw[←hq,hx]at hu;cases hu
   rw[hy]at hv;cases hv;exact qab9 x y hlt
 ·refine⟨(h+1,j),?_,⟨by simp only;omega,by simp only;omega,h3,.inr fun u v hu hv => ?_,h5⟩,by simp only;omega⟩
  ·obtain⟨xt,xk,xl⟩:=x
   obtain⟨yt,yk,yl⟩:=y
   simp only at hc
   simp only[qbw,zgs,zgr,zgq,zgt,hx,hy,c1,w1,w2,w3,w4,w5,w6,d1,rq,hc,hlt,Item.c,qa0,wg,qb,wl,zgy,↓qc,↓we,wf,wc,wd]
  ·simp only[Nat.add_sub_cancel]at hu hv
   rw[←hq,hx]at hv;cases hv
   rw[hy]at hu;cases hu;exact qxa x y hlt
end
open Go.Ev
set_option maxRecDepth 10000
section
variable (g:Nat) (cl:Bool) (n:Nat)
theorem qae0 (P S Q:List Item) (x:Item) (hn:n=(P++x::(S++Q)).length) (hb:n<2^61) (a i:Nat) (ha:a=P.length) (hi:i=a+S.length+1) :
  ∃y,itB (exec (evL T) itL none qd5) (qao [0,10,13] true 1) ⟨[(0,.sl 0 g 0 n cl),(10,(ii i)),(13,(ii a))],[]⟩ [.row 3 ((P++x::(S++Q)).map Item.c) g]=some y ∧
   (y.1 = .exit 2∧y.2.1.marks=[]∧y.2.2=[.row 3 ((P++(S++x::Q)).map Item.c) g]):=by
 refine qe1 (τ:=List Item×Nat) (fun s=>⟨[(0,.sl 0 g 0 n cl),(10,(ii i)),(13,(ii s.2))],[]⟩) (fun s=>[.row 3 ((s.1).map Item.c) g]) (fun s=>i-s.2)
  (fun s => ∃A B,s.1=P++(A++x::(B++Q))∧s.2=a+A.length∧A++B=S) _ ?_ (P++x::(S++Q),a) ⟨[],S,by simp,rfl,by simp⟩
 rintro⟨D,k⟩ ⟨A,B,hD,hk,hAB⟩
 simp only at hD hk⊢
 have hlen:n=P.length+(S.length+(Q.length+1)):=by rw[hn];simp;omega
 have hSl:S.length=A.length+B.length:=by rw[←hAB];simp
 obtain⟨i',hi'⟩ : ∃i',i'=a+S.length:=⟨_,rfl⟩
 have w1:IntKind.i64.wrap ((i:Int)-1)=(i':Int):=qpq (by omega) (by omega)
 cases B with
 |nil=>
  have h1:¬(k:Int)<(i':Int):=by simp at hSl;omega
  right
  simp only[qd5,w1,h1,wg,zgy,↓qc,↓we,wc,wd]
  refine⟨_,rfl,rfl,rfl,?_⟩
  rw[hD,←hAB];simp
 |cons y B=>
  rw[wI]at hSl
  have h1:(k:Int)<(i':Int):=by omega
  have e1:D=(P++A)++x::y::(B++Q):=by rw[hD];simp
  have l1:k=(P++A).length:=by simp;omega
  obtain⟨j,hj⟩ : ∃j,j=k+1:=⟨_,rfl⟩
  have gx:D[k]? = some x:=qkj e1 l1
  have gy:D[j]? = some y:=qkj (L:=P++A++[x]) (M:=B++Q) (by rw[e1];simp) (by simp;omega)
  have ge:D.length=n:=by rw[e1,hlen];simp;omega
  have w2:IntKind.i64.wrap ((k:Int)+1)=(j:Int):=by rw[hj];exact qge (by omega)
  have rj:j<n:=by omega
  have rk:k<n:=by omega
  have sw:=qabi e1 l1 hj
  have hne:¬(k=j):=by omega
  left
  have hlo:=qa0 1 ((D.set k y).set j x)
  refine⟨((D.set k y).set j x,j),?_,⟨A++[y],B,by rw[sw];simp,by simp;omega,by rw[←hAB];simp⟩,by simp only;omega⟩
  obtain⟨xt,xk,xl⟩:=x
  obtain⟨yt,yk,yl⟩:=y
  have hs : ∀v,((D.map Item.c).set k v)[j]? = some (Item.c ⟨yt,yk,yl⟩):=fun v=>by rw[wr hne,wE,gy];rfl
  simp only[wv,Item.c]at hlo
  simp only[qd5,zgs,zgr,zgq,zgt,gx,gy,hs,h1,w1,w2,rj,rk,hlo,wv,Item.c,wg,Ev.stP,qb,wj,wk,wl,zgy,↓qc,↓we,wf,wc,wd]
theorem qad6 (P S Q:List Item) (x:Item) (hn:n=(P++(S++x::Q)).length) (hb:n<2^61) (m i:Nat) (hi:i=P.length) (hm:m=i+S.length) :
  ∃y,itB (exec (evL T) itL none qd4) (qao [0,14,17] true 1) ⟨[(0,.sl 0 g 0 n cl),(14,(ii i)),(17,(ii m))],[]⟩ [.row 3 ((P++(S++x::Q)).map Item.c) g]=some y ∧
   (y.1 = .exit 6∧y.2.1.marks=[]∧y.2.2=[.row 3 ((P++x::(S++Q)).map Item.c) g]):=by
 refine qe1 (τ:=List Item×Nat) (fun s=>⟨[(0,.sl 0 g 0 n cl),(14,(ii i)),(17,(ii s.2))],[]⟩) (fun s=>[.row 3 ((s.1).map Item.c) g]) (fun s=>s.2)
  (fun s => ∃A B,s.1=P++(A++x::(B++Q))∧s.2=i+A.length∧A++B=S) _ ?_ (P++(S++x::Q),m) ⟨S,[],by simp,hm,by simp⟩
 rintro⟨D,j⟩ ⟨A,B,hD,hj,hAB⟩
 simp only at hD hj⊢
 have hlen:n=P.length+(S.length+(Q.length+1)):=by rw[hn];simp
 have hSl:S.length=A.length+B.length:=by rw[←hAB];simp
 rcases List.eq_nil_or_concat A with rfl|⟨A0,y,rfl⟩
 ·have h1:¬(j:Int)>(i:Int):=by simp at hj;omega
  right
  simp only[qd4,h1,wg,zgy,↓qc,↓we,wc,wd]
  refine⟨_,rfl,rfl,rfl,?_⟩
  rw[hD,←hAB];simp
 ·simp only[List.concat_eq_append,zgp,zga,zgb]at hD hj hSl hAB
  obtain⟨k,hk1⟩ : ∃k,k=i+A0.length:=⟨_,rfl⟩
  have hjk:j=k+1:=by omega
  have h1:(j:Int)>(i:Int):=by omega
  have e1:D=(P++A0)++y::x::(B++Q):=by rw[hD];simp
  have l1:k=(P++A0).length:=by simp;omega
  have gy:D[k]? = some y:=qkj e1 l1
  have gx:D[j]? = some x:=qkj (L:=P++A0++[y]) (M:=B++Q) (by rw[e1];simp) (by simp;omega)
  have ge:D.length=n:=by rw[e1,hlen];simp;omega
  have ws:IntKind.i64.wrap ((j:Int)-1)=(k:Int):=qpq hjk (by omega)
  have rj:j<n:=by omega
  have rk:k<n:=by omega
  have sw:=q3f e1 l1 hjk
  have hne:¬(j=k):=by omega
  left
  have hlo:=qa0 1 ((D.set j y).set k x)
  refine⟨((D.set j y).set k x,k),?_,⟨A0,y::B,by rw[sw];simp,hk1,by rw[←hAB];simp⟩,by simp only;omega⟩
  obtain⟨xt,xk,xl⟩:=x
  obtain⟨yt,yk,yl⟩:=y
  have hs : ∀v,((D.map Item.c).set j v)[k]? = some (Item.c ⟨yt,yk,yl⟩):=fun v=>by rw[wr hne,wE,gy];rfl
  simp only[wv,Item.c]at hlo
  simp only[qd4,zgs,zgr,zgq,zgt,gx,gy,hs,h1,ws,rj,rk,hlo,wv,Item.c,wg,Ev.stP,qb,wj,wk,wl,zgy,↓qc,↓we,wf,wc,wd]
theorem qi1.perm {D E:List Item} (h:qi1 D) (p:E.Perm D):qi1 E:=fun x hx=>h x (p.mem_iff.1 hx)
theorem qahn (P Y Q:List Item) (x:Item) (hY:Y.Pairwise qm2) (hY0:0<Y.length) (hn:n=(P++x::(Y++Q)).length) (hb:n<2^61) (hk:qi1 (P++x::(Y++Q))) (a m b:Nat) (ha:a=P.length) (hm:m=a+1) (hbb:b=m+Y.length) :
  ∃Z:List Item,Z.Perm (x::Y)∧Z.Pairwise qm2∧(evL T).call qr [.sl 0 g 0 n cl,(ii a),(ii m),(ii b),(.fn (.func qe) [] [])] [.row 3 ((P++x::(Y++Q)).map Item.c) g]=some (.tup [],[.row 3 ((P++(Z++Q)).map Item.c) g]):=by
 have hlen:n=P.length+(1+(Y.length+Q.length)):=by rw[hn];simp;omega
 obtain⟨⟨y,e,σ⟩,k1,i,k2,k3,k4,k5,k6,k7,k8,k9,k10,k11⟩:=qafw g cl n (P++x::(Y++Q)) x hn hb hk a m b (qkj rfl ha) (by omega) (by omega) (by omega)
 simp only at k1 k2 k3 k4 k5 k6 k7
 subst k2;subst k4
 obtain⟨Y1,Y2,rfl,hY1⟩ : ∃Y1 Y2,Y=Y1++Y2∧Y1.length=i-m:=⟨Y.take (i-m),Y.drop (i-m),(wx _ _).symm,by simp;omega⟩
 rw[wq]at hbb hlen hY0
 obtain⟨⟨y',e',σ'⟩,l1,l2,l3,l4⟩:=qae0 g cl n P Y1 (Y2++Q) x (by rw[hlen];simp;omega) hb a i ha (by omega)
 simp only at l1 l2 l3 l4
 subst l2;subst l4
 rw[wn]at hk
 refine⟨Y1++x::Y2,List.perm_middle,qou qzn hY ?_ ?_,?_⟩
 ·intro u hu
  rcases k10 with h|h
  ·rw[show Y1=[] from wm (by omega)]at hu;simp at hu
  ·have hlt:Y1.length-1<Y1.length:=(zei.1 hu).1
   refine h u ?_
   rw[←hu]
   exact qrl (L:=P++[x]) (X:=Y1) (M:=Y2++Q) (by simp) hlt (by simp;omega)
 ·intro v hv
  rcases k11 with h|h
  ·rw[show Y2=[] from wm (by omega)]at hv;simp at hv
  ·have hlt:0<Y2.length:=(zei.1 hv).1
   refine h v ?_
   rw[←hv]
   exact qrl (L:=P++x::Y1) (X:=Y2) (M:=Q) (by simp) hlt (by simp;omega)
 ·have c1:(m:Int)-(a:Int)=1:=by omega
  have w1:IntKind.i64.wrap ((m:Int)-(a:Int))=1:=by rw[c1];exact qk (by omega) (by omega)
  rw[wn]at k1⊢
  rw[qg qfw qfl]
  simp only[wn,zgm]
  simp only[qbq,w1,k1,k3,k5,k6,k7,l1,l3,qa0,wg,ql,wl,zgy,↓qc,↓qx,↓we,wf,wc,wd]
theorem qago (P X Q:List Item) (x:Item) (hX:X.Pairwise qm2) (hX0:1<X.length) (hn:n=(P++(X++x::Q)).length) (hb:n<2^61) (hk:qi1 (P++(X++x::Q))) (a m b:Nat) (ha:a=P.length) (hm:m=a+X.length) (hbb:b=m+1) :
  ∃Z:List Item,Z.Perm (X++[x])∧Z.Pairwise qm2∧(evL T).call qr [.sl 0 g 0 n cl,(ii a),(ii m),(ii b),(.fn (.func qe) [] [])] [.row 3 ((P++(X++x::Q)).map Item.c) g]=some (.tup [],[.row 3 ((P++(Z++Q)).map Item.c) g]):=by
 have hlen:n=P.length+(X.length+(Q.length+1)):=by rw[hn];simp
 obtain⟨⟨y,e,σ⟩,k1,i,k2,k3,k4,k5,k6,k7,k8,k9,k10,k11⟩:=qaew g cl n (P++(X++x::Q)) x hn hb hk a m (qkj (L:=P++X) (M:=Q) (by simp) (by simp;omega)) (by omega) (by omega)
 simp only at k1 k2 k3 k4 k5 k6 k7
 subst k2;subst k4
 obtain⟨X1,X2,rfl,hX1⟩ : ∃X1 X2,X=X1++X2∧X1.length=i-a:=⟨X.take (i-a),X.drop (i-a),(wx _ _).symm,by simp;omega⟩
 rw[wq]at hm hlen hX0
 obtain⟨⟨y',e',σ'⟩,l1,l2,l3,l4⟩:=qad6 g cl n (P++X1) X2 Q x (by rw[hlen];simp;omega) hb m i (by simp;omega) (by omega)
 simp only at l1 l2 l3 l4
 subst l2;subst l4
 refine⟨X1++x::X2,?_,qou qzn hX ?_ ?_,?_⟩
 ·rw[wn]
  exact List.Perm.append_left X1 (List.perm_append_singleton x X2).symm
 ·intro u hu
  rcases k10 with h|h
  ·rw[show X1=[] from wm (by omega)]at hu;simp at hu
  ·have hlt:X1.length-1<X1.length:=(zei.1 hu).1
   refine h u ?_
   rw[←hu]
   exact qrl (L:=P) (X:=X1) (M:=X2++x::Q) (by simp) hlt (by omega)
 ·intro v hv
  rcases k11 with h|h
  ·rw[show X2=[] from wm (by omega)]at hv;simp at hv
  ·have hlt:0<X2.length:=(zei.1 hv).1
   refine h v ?_
   rw[←hv]
   exact qrl (L:=P++X1) (X:=X2) (M:=x::Q) (by simp) hlt (by simp;omega)
 ·have w1:IntKind.i64.wrap ((m:Int)-(a:Int))=((X1.length+X2.length:Nat):Int):=qgz hm (by omega)
  have h1:¬((X1.length+X2.length:Nat):Int)=1:=by omega
  have w2:IntKind.i64.wrap ((b:Int)-(m:Int))=1:=by rw[show (b:Int)-(m:Int)=1 by omega];exact qk (by omega) (by omega)
  rw[qg qfw qfl]
  simp only[wn,zgm]at k1 l1⊢
  simp only[qbq,w1,w2,h1,k1,k3,k5,k6,k7,l1,l3,qa0,wg,ql,wl,zgy,↓qc,↓qx,↓we,wf,wc,wd]
end
open Go.Ev
set_option maxRecDepth 10000
section
variable (g:Nat) (cl:Bool) (n:Nat)
def qsd (a m b:Nat) (D D':List Item):Prop:=(evL T).call qr [.sl 0 g 0 n cl,(ii a),(ii m),(ii b),(.fn (.func qe) [] [])] [.row 3 ((D).map Item.c) g]=some (.tup [],[.row 3 ((D').map Item.c) g])
structure NumsJ (x1 x2 y1 y2 a m b mid nn lo hi p start fin:Nat):Prop where
 hX1:1<x1+x2
 hY1:1<y1+y2
 hb:n<2^61
 hmid:mid=(a+b) / 2
 hnn:nn=mid+m
 hp:nn=p+1
 hfin:nn=start+fin
 hm:m=a+(x1+x2)
 hbb:b=m+(y1+y2)
 hbn:b≤n
 hst:start=a+x1
 hfi:fin=m+y1
structure WrapsJ (x1 x2 y1 y2 a m b mid nn p start fin:Nat):Prop where
 w1:IntKind.i64.wrap ((m:Int)-(a:Int))=((x1+x2:Nat):Int)
 h1:¬((x1+x2:Nat):Int)=1
 w2:IntKind.i64.wrap ((b:Int)-(m:Int))=((y1+y2:Nat):Int)
 h2:¬((y1+y2:Nat):Int)=1
 w3:IntKind.i64.wrap ((a:Int)+(b:Int))=((a+b:Nat):Int)
 w4:IntKind.u64.wrap ((a+b:Nat):Int)=((a+b:Nat):Int)
 w5:qn2 .shr (.v (.int .u64 ((a+b:Nat):Int))) (.v (.int .u64 1))=some (.v (.int .u64 (mid:Int)))
 w6:IntKind.i64.wrap (mid:Int)=(mid:Int)
 w7:IntKind.i64.wrap ((mid:Int)+(m:Int))=(nn:Int)
 w8:IntKind.i64.wrap ((nn:Int)-1)=(p:Int)
 w9:IntKind.i64.wrap ((nn:Int)-(start:Int))=(fin:Int)
 c5:mid<fin↔start<m
 c6:start<mid↔m<fin
theorem NumsJ.wraps {n x1 x2 y1 y2 a m b mid nn lo hi p start fin:Nat} (N:NumsJ n x1 x2 y1 y2 a m b mid nn lo hi p start fin):WrapsJ x1 x2 y1 y2 a m b mid nn p start fin:=by
 obtain⟨hX1,hY1,hb,hmid,hnn,hp,hfin,hm,hbb,hbn,hst,hfi⟩:=N
 refine⟨qgz hm (by omega),by omega,qgz hbb (by omega),by omega,qg4 (by omega),qzu (by omega),q27 (a+b) mid hmid,qzx (by omega),?_,qpq hp (by omega),qgz hfin (by omega),by omega,by omega⟩
 rw[hnn];exact qg4 (by omega)
set_option maxHeartbeats 8000000 in
theorem qake (x1 x2 y1 y2 a m b mid nn lo hi p start fin:Nat) (D D2 D3 D4:List Item) (N:NumsJ n x1 x2 y1 y2 a m b mid nn lo hi p start fin) (hlo:mid<m∧nn=b+lo∧hi=mid∨¬mid<m∧lo=a∧hi=m)
  (hfind : ∃y,itB (exec (evL T) itL none qbw) (qao [0,1,2,3,4,18,19,20,21,22] true 1) ⟨[(0,.sl 0 g 0 n cl),(1,(ii a)),(2,(ii m)),(3,(ii b)),(4,(.fn (.func qe) [] [])),(18,(ii mid)),(19,(ii nn)),(20,(ii lo)),(21,(ii hi)),(22,(ii p))],[]⟩ [.row 3 ((D).map Item.c) g]=some y ∧
   (y.1 = .exit 8∧y.2.1.marks=[]∧y.2.2=[.row 3 ((D).map Item.c) g]∧wh y.2.1.vars 0=some (.sl 0 g 0 n cl)∧wh y.2.1.vars 1=some (ii a)∧wh y.2.1.vars 2=some (ii m)∧wh y.2.1.vars 3=some (ii b)∧wh y.2.1.vars 4=some (.fn (.func qe) [] [])∧wh y.2.1.vars 18=some (ii mid) ∧
    wh y.2.1.vars 19=some (ii nn)∧wh y.2.1.vars 20=some (ii start)))
  (s1:start<m→m<fin→(evL T).call qbg [.sl 0 g 0 n cl,(ii start),(ii m),(ii fin),(.fn (.func qe) [] [])] [.row 3 ((D).map Item.c) g]=some (.tup [],[.row 3 ((D2).map Item.c) g])) (n1:¬(start<m∧m<fin)→D2=D)
  (s2:a<start→start<mid→qsd g cl n a start mid D2 D3) (n2:¬(a<start∧start<mid)→D3=D2)
  (s3:mid<fin→fin<b→qsd g cl n mid fin b D3 D4) (n3:¬(mid<fin∧fin<b)→D4=D3):qsd g cl n a m b D D4:=by
 obtain⟨⟨y,e,σ⟩,k1,k2,k3,k4,k5,k6,k7,k8,k9,k10,k11,k12⟩:=hfind
 obtain⟨w1,h1,w2,h2,w3,w4,w5,w6,w7,w8,w9,c5,c6⟩:=N.wraps
 simp only at k1 k2 k3 k4 k5 k6 k7 k8 k9 k10 k11 k12
 subst k2;subst k4
 unfold qsd at *
 rw[qg qfw qfl]
 have g5:mid<m→IntKind.i64.wrap ((nn:Int)-(b:Int))=(lo:Int):=fun g=>by
  rcases hlo with ⟨_,g2,_⟩|⟨g1,_⟩
  ·exact qgz g2 (by have:=N.hnn;have:=N.hmid;have:=N.hb;have:=N.hbn;have:=N.hm;have:=N.hbb;omega)
  ·exact absurd g g1
 have l1:¬mid<m→lo=a:=fun g=>hlo.elim (fun h=>absurd h.1 g) fun h=>h.2.1
 have l2:¬mid<m→hi=m:=fun g=>hlo.elim (fun h=>absurd h.1 g) fun h=>h.2.2
 have l3:mid<m→hi=mid:=fun g=>hlo.elim (fun h=>h.2.2) fun h=>absurd g h.1
 clear hlo N
 rcases Classical.em (start<m)with d1|d1<;>rcases Classical.em (m<fin)with d2|d2<;>rcases Classical.em (a<start)with d3|d3<;>rcases Classical.em (fin<b)with d4|d4
 all_goals
  try (have r:=n1 (by first|exact fun h=>d1 h.1|exact fun h=>d2 h.2);subst r)
  try (have r:=n2 (by first|exact fun h=>d3 h.1|exact fun h=>d2 (c6.1 h.2));subst r)
  try (have r:=n3 (by first|exact fun h=>d4 h.2|exact fun h=>d1 (c5.1 h.1));subst r)
  try replace s1:=s1 d1 d2
  try replace s2:=s2 d3 (c6.2 d2)
  try replace s3:=s3 (c5.2 d1) d4
  rcases Classical.em (mid<m)with g1|g1
  ·have g:=g5 g1
   have l:=l3 g1
   subst l
   simp only[qbq,w1,w2,w3,w4,w5,w6,w7,w8,w9,h1,h2,gt_iff_lt,Int.ofNat_lt,g1,g,k1,k3,k5,k6,k7,k8,k9,k10,k11,k12,c5,c6,d1,d2,d3,d4,s1,s2,s3,qa0,wg,ql,wl,zgy,↓qc,↓qx,↓we,wf,wc,wd]
  ·have l:=l1 g1
   have l':=l2 g1
   subst l;subst l'
   simp only[qbq,w1,w2,w3,w4,w5,w6,w7,w8,w9,h1,h2,gt_iff_lt,Int.ofNat_lt,g1,k1,k3,k5,k6,k7,k8,k9,k10,k11,k12,c5,c6,d1,d2,d3,d4,s1,s2,s3,qa0,wg,ql,wl,zgy,↓qc,↓qx,↓we,wf,wc,wd]
end
end Go.Proofs.YtfdoelhnnmcppaaGreat.K
