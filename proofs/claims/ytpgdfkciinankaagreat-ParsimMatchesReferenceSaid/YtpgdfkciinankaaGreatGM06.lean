/- For every input the statement of this claim returns true: texts of its proof, joined (part 7). -/
import Derived.Test.YtpgdfkciinankaaGreatProg
import Derived.KernelRfl
import Derived.Test.YtpgdfkciinankaaGreatEM3
import Derived.Test.YtpgdfkciinankaaGreatGM04
import Derived.Test.YtpgdfkciinankaaGreatSKM
set_option linter.unusedSectionVars false
set_option linter.unusedSimpArgs false
set_option linter.unusedVariables false
open Nat renaming reduceEqDiff → wc, reduceAdd → wf, le_refl → ww, add_sub_cancel → wy, reduceLT → wF
open _root_ renaming reduceCtorEq → wd, reduceIte → we
open Go.Ev renaming ev1 → wg, look → wh
open List renaming eq_nil_of_length_eq_zero → wj, length_append → wk, append_assoc → wl, getElem?_zip_eq_some → wp, take_append_drop → wq, pairwise_append → wr, map_set → wx, mem_append → wz, mem_iff_getElem? → wA, getElem?_set_ne → wB, mem_cons → wC, map_cons → wD
open Go.Ev.AV renaming cells → wm, plain → wn
open Go.Ev.SObj renaming lo → wo
open Int renaming reduceNeg → wt, lt_irrefl → wu, cast_ofNat_Int → wE
open List.Perm renaming append_left → wv
namespace Go.Proofs.YtpgdfkciinankaaGreat.K
open Go.Ev
set_option maxRecDepth 100000
theorem qqw:comp Tryz.prog { frz:=[4] } qcs=some qbg:=by kernel_rfl
theorem qaf8:comp Tryz.prog {  } qng=some q0f:=by kernel_rfl
theorem qac5:comp Tryz.prog { frz:=[1],loops:=[([1,3],true),([1,4],true)] } qj6=some qke:=by kernel_rfl
theorem qadc:comp Tryz.prog { frz:=[1],loops:=[([1,3],true),([1,5],true),([1,5,6],true)] } qez=some qks:=by kernel_rfl
theorem qai9:comp Tryz.prog { frz:=[1] } qq1=some q03:=by kernel_rfl
theorem qad1:comp Tryz.prog { own:=[5],loops:=[([0,1,5,6],true)] } qml=some qs4:=by kernel_rfl
theorem qac2:comp Tryz.prog {  } qmk=some qs6:=by kernel_rfl
theorem qagb:comp Tryz.prog { frz:=[4] } qi0=some qrs:=by kernel_rfl
theorem qahy:comp Tryz.prog { frz:=[4] } qnr=some qtt:=by kernel_rfl
theorem q2y:comp Tryz.prog { loops:=[([0,1,5],true)] } qgu=some qm8:=by kernel_rfl
theorem q9h:comp Tryz.prog { loops:=[([0,1,5],true)] } qjh=some qlo:=by kernel_rfl
theorem qagq:comp Tryz.prog { loops:=[([0,1,5],true)] } qlw=some qu4:=by kernel_rfl
theorem q79:comp Tryz.prog { frz:=[4] } qgn=some qnf:=by kernel_rfl
theorem qaad:comp Tryz.prog { frz:=[4] } qi2=some qoq:=by kernel_rfl
theorem qw6:comp Tryz.prog { loops:=[([0,1,5],true)] } qdx=some qiu:=by kernel_rfl
theorem q0b:comp Tryz.prog { frz:=[4] } qdg=some qin:=by kernel_rfl
theorem q1h:comp Tryz.prog { frz:=[4] } qeu=some qjb:=by kernel_rfl
theorem q6a:comp Tryz.prog { mA:=[16],mI:=[33,41],loops:=[([1,2,8,9],true)] } qgz=some qo9:=by kernel_rfl
theorem qafm:comp Tryz.prog { loops:=[([0,1,5],true)] } qnq=some qvi:=by kernel_rfl
theorem qagh:comp Tryz.prog {  } qnj=some qzp:=by kernel_rfl
theorem qads:comp Tryz.prog { frz:=[1],loops:=[([1,3],true)] } qmm=some qfo:=by kernel_rfl
theorem qad4:comp Tryz.prog { loops:=[([0,1,2,3,9],true),([0,2,3,10],true),([0,3,11],true)] } ql4=some qkt:=by kernel_rfl
theorem qadr:comp Tryz.prog { frz:=[1],loops:=[([1,3,4,5],true),([1,3,4,6],true),([1,3,4,6,7],true)] } ql7=some qit:=by kernel_rfl
theorem qacr:comp Tryz.prog { frz:=[1] } qdn=some qrg:=by kernel_rfl
theorem qafy:comp Tryz.prog { frz:=[4,19],loops:=[([1,2,3,4,8,10,11],true)] } qkl=some qvg:=by kernel_rfl
theorem q6d:comp Tryz.prog { frz:=[4],topZ:=[23],ice:=[(6,10)],loops:=[([1,2,3,4,8,10,11],false),([1,2,3,4,8,10,12],true)] } qfr=some qo4:=by kernel_rfl
theorem q2p:comp Tryz.prog { loops:=[([0,1,5],true)] } qgw=some qic:=by kernel_rfl
theorem qaa6:comp Tryz.prog { frz:=[2,3],loops:=[([2,3,5],true)] } qk0=some qhr:=by kernel_rfl
theorem q8u:comp Tryz.prog {  } qjj=some qqe:=by kernel_rfl
theorem q9u:comp Tryz.prog { mA:=[7],topZ:=[12],ownB:=[(12,(3,2))],fillC:=[(10,0)],ice:=[(1,0)],loops:=[([5,18,19],true)] } qjr=some qqa:=by kernel_rfl
theorem q1j:comp Tryz.prog { ldK:=[(24,(0,2))],keep:=[(28,(0,(2,1)))] } qer=some qc6:=by kernel_rfl
theorem qmb:comp Tryz.prog { mA:=[24],bad:=true,loops:=[([0,3,9,10,11],true),([6,25,26,27],false)] } qn=some qcp:=by kernel_rfl
theorem qac3:comp Tryz.prog { loops:=[([0,3],true)] } ql8=some qmh:=by kernel_rfl
theorem q6k:comp Tryz.prog { frz:=[3] } qih=some qew:=by kernel_rfl
theorem qxu:comp Tryz.prog { frz:=[1],loops:=[([3,32,33,34],true)] } qde=some qed:=by kernel_rfl
theorem qtq:comp Tryz.prog { frz:=[1] } qcd=some qg8:=by kernel_rfl
theorem qug:comp Tryz.prog { frz:=[1] } qci=some qho:=by kernel_rfl
theorem qwp:comp Tryz.prog { frz:=[1] } qc0=some qiw:=by kernel_rfl
theorem qrm:comp Tryz.prog { loops:=[([1,8,9,10],true)] } qcc=some qd3:=by kernel_rfl
theorem q63:comp Tryz.prog {  } qex=some qo0:=by kernel_rfl
theorem q8b:comp Tryz.prog { frz:=[1],topZ:=[11],loops:=[([3,13,14,15],false),([3,4,13,14,15,20,21,22],false)] } qji=some qp4:=by kernel_rfl
theorem qabs:comp Tryz.prog { mF:=[9] } qky=some qrb:=by kernel_rfl
theorem q7d:comp Tryz.prog { frz:=[1],frzv:=[37],own:=[3],loops:=[([3,9,10,11],true),([3,4,9,10,11,16,17,18],true)] } qie=some qoz:=by kernel_rfl
theorem qaco:comp Tryz.prog { frzv:=[27],own:=[4],loops:=[([4,7,8,9],true)] } qk1=some qor:=by kernel_rfl
theorem qaag:comp Tryz.prog { mA:=[4] } qi1=some qrh:=by kernel_rfl
theorem q1n:comp Tryz.prog { frz:=[4,5],appF:=[110,117],frzv:=[102],mA:=[26,29,32],mF:=[103],ldB:=[(71,10)],stA:=[(78,10)],loops:=[([2,3,4,5,8,9,10,11,40,41,42],true)] } qf0=some qlx:=by kernel_rfl
theorem qacu:comp Tryz.prog { frz:=[1],own:=[3],topZ:=[5],loops:=[([1,3,4],false),([1,3,4,5,6],false)] } qk3=some qrd:=by kernel_rfl
theorem qadj:comp Tryz.prog { own:=[5],loops:=[([0,1,5,6],true),([0,1,5,6,7,8],true)] } qmj=some qsj:=by kernel_rfl
theorem q8t:comp Tryz.prog { frz:=[1],frzv:=[41],own:=[3],loops:=[([1,3,4],true),([1,3,4,5],true)] } qjf=some qqc:=by kernel_rfl
theorem qadi:comp Tryz.prog {  } qmd=some qsn:=by kernel_rfl
theorem qadu:comp Tryz.prog { loops:=[([0,4,5,6],true),([0,4,5,6,7],true)] } qmo=some qsh:=by kernel_rfl
theorem q9a:comp Tryz.prog { loops:=[([0,3,4],true)] } qhx=some qp0:=by kernel_rfl
theorem qab0:comp Tryz.prog { frz:=[5],appN:=[36,40,44,94,117,125],frzv:=[106,108,110,111],appZ:=[97],loops:=[([2,5,6,10,11,12,14,15,16,17,18],true)] } qkw=some qri:=by kernel_rfl
theorem q5o:comp Tryz.prog { frz:=[2,3] } qhi=some qd6:=by kernel_rfl
theorem q8n:comp Tryz.prog {  } qfg=some qno:=by kernel_rfl
theorem qaht:comp Tryz.prog { frz:=[20],topZ:=[22],ownB:=[(22,(0,6))] } qpa=some q2j:=by kernel_rfl
theorem qzf:comp Tryz.prog { mI:=[11,21] } qct=some qil:=by kernel_rfl
theorem qm5:comp Tryz.prog { bad:=true } qas=some qbt:=by kernel_rfl
theorem qad0:comp Tryz.prog {  } qhp=some qsv:=by kernel_rfl
theorem qadp:comp Tryz.prog {  } qiv=some qsy:=by kernel_rfl
theorem q8h:comp Tryz.prog {  } qen=some qp7:=by kernel_rfl
theorem q7i:comp Tryz.prog {  } qfm=some qo8:=by kernel_rfl
theorem qx6:comp Tryz.prog { loops:=[([1,8,9,10],true)] } qec=some qhd:=by kernel_rfl
theorem qs7:comp Tryz.prog {  } qbw=some qgr:=by kernel_rfl
theorem q8y:comp Tryz.prog { loops:=[([0,33,34,35],true),([0,11,33,34,35,39,40,41],true)] } qjc=some qlk:=by kernel_rfl
theorem quy:comp Tryz.prog { loops:=[([1,8,9,10],true)] } qc2=some qfk:=by kernel_rfl
theorem qut:comp Tryz.prog {  } qcm=some qhn:=by kernel_rfl
theorem qvo:comp Tryz.prog { loops:=[([1,8,9,10],true)] } qdi=some qf7:=by kernel_rfl
theorem qs2:comp Tryz.prog { frz:=[2] } qby=some qgp:=by kernel_rfl
theorem q5z:comp Tryz.prog { mA:=[12],mF:=[53],topZ:=[15],ownS:=[(15,6)],appB:=[(33,8)],ldB:=[(25,8)],loops:=[([5,6,17,18,19],true),([5,36,37,38],true)] } qfp=some qo5:=by kernel_rfl
theorem qac8:comp Tryz.prog { mA:=[6] } qkp=some qsk:=by kernel_rfl
theorem q2h:comp Tryz.prog { mA:=[5],mI:=[7] } qef=some qna:=by kernel_rfl
theorem qy0:comp Tryz.prog { bad:=true,loops:=[([0,3,4],true)] } qep=some qkb:=by kernel_rfl
theorem q6u:comp Tryz.prog { frz:=[2] } qg3=some qo7:=by kernel_rfl
theorem q7f:comp Tryz.prog { frz:=[4,5],mI:=[21,26,28],ownB:=[(17,(5,6)),(17,(6,6))],loops:=[([4,13],true)] } qg1=some qo6:=by kernel_rfl
theorem qyb:comp Tryz.prog {  } qeb=some qjw:=by kernel_rfl
theorem qq8:comp Tryz.prog {  } qbx=some qe4:=by kernel_rfl
theorem qab3:comp Tryz.prog { frz:=[3],own:=[6],loops:=[([0,3,5],true)] } qgk=some qk2:=by kernel_rfl
theorem q2q:comp Tryz.prog { frzv:=[49],own:=[6],loops:=[([0,3,4],true),([0,3,4,5],true)] } qe7=some qnb:=by kernel_rfl
theorem q8e:comp Tryz.prog { frz:=[2] } qht=some qnx:=by kernel_rfl
theorem qacv:comp Tryz.prog { mA:=[18],mI:=[37,64],loops:=[([0,1,2,8,9],true),([1,8,10,11],true)] } qkx=some qrc:=by kernel_rfl
theorem qahp:comp Tryz.prog { frz:=[4,5],mI:=[68],ownB:=[(23,(5,6)),(23,(6,6))],loops:=[([3,4,8,9,10],true),([3,4,8,9,10,16,18],true)] } qnh=some qx5:=by kernel_rfl
theorem q9c:comp Tryz.prog { appN:=[11],loops:=[([1,5,6],true),([1,5,6,7],true)] } qhu=some qp5:=by kernel_rfl
theorem q1r:comp Tryz.prog { loops:=[([0,1,5],true)] } qev=some qjk:=by kernel_rfl
theorem qado:comp Tryz.prog {  } qn6=some qx1:=by kernel_rfl
theorem q2t:comp Tryz.prog { frz:=[7],mI:=[16] } qeg=some qki:=by kernel_rfl
theorem q1l:comp Tryz.prog { frz:=[2,3] } qfy=some qme:=by kernel_rfl
theorem qyw:comp Tryz.prog { mI:=[10] } qcz=some qkn:=by kernel_rfl
theorem qabv:comp Tryz.prog { frz:=[3,5],mA:=[52],mI:=[59,82,88],ldF:=[80],ldx:=[(96,6),(100,6),(104,6)],ownB:=[(56,(10,6)),(56,(12,1))] } qfl=some qbi:=by kernel_rfl
theorem qw5:comp Tryz.prog { loops:=[([0,1,12,13],true)] } qcx=some qey:=by kernel_rfl
theorem q7v:comp Tryz.prog {  } qa1=some qo2:=by kernel_rfl
theorem qxt:comp Tryz.prog { frz:=[2,3] } qal=some qju:=by kernel_rfl
theorem qtr:comp Tryz.prog { frz:=[2,3],ldF:=[41,60,79] } qaa=some qa7:=by kernel_rfl
theorem qwa:comp Tryz.prog { frz:=[2,3] } qac=some qid:=by kernel_rfl
theorem qw9:comp Tryz.prog { frz:=[2,3] } qag=some qis:=by kernel_rfl
theorem q8d:comp Tryz.prog { mA:=[8],mI:=[9] } qjm=some qp2:=by kernel_rfl
theorem qjp:comp Tryz.prog { mI:=[8] } qad=some qbk:=by kernel_rfl
theorem qy9:comp Tryz.prog { frz:=[2,3] } qe=some qga:=by kernel_rfl
theorem qwv:comp Tryz.prog { frz:=[2,3] } qd2=some qiq:=by kernel_rfl
theorem qv3:comp Tryz.prog { frz:=[4,5],loops:=[([0,5,8,50,51,52],true),([0,81,82,83],true)] } qdh=some qf5:=by kernel_rfl
theorem qwn:comp Tryz.prog { ldx:=[(14,2),(18,2),(22,2),(26,2)] } qdz=some qir:=by kernel_rfl
theorem qyz:comp Tryz.prog { frz:=[2,3] } qdt=some qhz:=by kernel_rfl
theorem qadq:comp Tryz.prog {  } qkr=some qsg:=by kernel_rfl
theorem qahs:comp Tryz.prog { mA:=[7],topZ:=[10],ownB:=[(10,(2,1)),(10,(3,1)),(10,(4,2))],loops:=[([1,5,6],true)] } qpl=some qx9:=by kernel_rfl
theorem q4d:comp Tryz.prog { mI:=[32,95,111] } qgc=some qd7:=by kernel_rfl
theorem qadh:comp Tryz.prog {  } qly=some qsx:=by kernel_rfl
theorem qafk:comp Tryz.prog { appN:=[23] } qnt=some qpq:=by kernel_rfl
theorem qaf6:comp Tryz.prog { frz:=[3,4,5],ldx:=[(96,6),(98,6),(100,6)] } qhw=some qbz:=by kernel_rfl
theorem qadt:comp Tryz.prog { loops:=[([1,2,3,6,7],true)] } qma=some qs1:=by kernel_rfl
theorem qacs:comp Tryz.prog { appN:=[25],loops:=[([0,1,6],true)] } qkz=some qom:=by kernel_rfl
theorem q9v:comp Tryz.prog {  } qgs=some qli:=by kernel_rfl
theorem qzb:comp Tryz.prog { mI:=[20,44] } qcj=some qgf:=by kernel_rfl
theorem q0a:comp Tryz.prog {  } qdf=some qld:=by kernel_rfl
theorem qy7:comp Tryz.prog { ldF:=[5,6,10] } qck=some qko:=by kernel_rfl
theorem q1v:comp Tryz.prog { mI:=[10],ldK:=[(14,(0,2))],keep:=[(10,(0,(2,1)))] } qb9=some qjl:=by kernel_rfl
theorem qvj:comp Tryz.prog {  } qah=some qf6:=by kernel_rfl
theorem qr7:comp Tryz.prog { mA:=[6],mI:=[10,19,44,49],loops:=[([0,1,4,7],true)] } qch=some qei:=by kernel_rfl
theorem qla:comp Tryz.prog { loops:=[([0,1,7,8],true)] } qaq=some qbb:=by kernel_rfl
theorem qrn:comp Tryz.prog { mI:=[4] } qca=some qfn:=by kernel_rfl
theorem q6z:comp Tryz.prog {  } qii=some qoy:=by kernel_rfl
theorem qou:comp Tryz.prog { mI:=[18,27,43,60],loops:=[([0,1,2,6,7,8],true),([0,1,2,6],true),([0,1,2,6,7,8],true)] } qa6=some qdw:=by kernel_rfl
theorem qad5:comp Tryz.prog {  } ql0=some qsf:=by kernel_rfl
theorem q5r:comp Tryz.prog {  } qgh=some qi9:=by kernel_rfl
theorem q1c:comp Tryz.prog {  } qfx=some ql1:=by kernel_rfl
theorem qub:comp Tryz.prog { loops:=[([0,1,2],true)] } qcl=some qfa:=by kernel_rfl
theorem qabt:comp Tryz.prog { mA:=[20] } qk5=some qm4:=by kernel_rfl
theorem q61:comp Tryz.prog { frz:=[3],mA:=[14],mI:=[18] } qg2=some qo1:=by kernel_rfl
theorem q7g:comp Tryz.prog { frz:=[3],mA:=[21],mI:=[9] } qig=some qmz:=by kernel_rfl
theorem qahe:comp Tryz.prog { topZ:=[25],ownB:=[(25,(2,6))],loops:=[([1,5,6],true)] } qpf=some q3e:=by kernel_rfl
theorem q4n:comp Tryz.prog { frz:=[3] } qdl=some qi6:=by kernel_rfl
theorem qaha:comp Tryz.prog { frz:=[5],appN:=[12],frzv:=[17] } qf2=some qx8:=by kernel_rfl
theorem q5u:comp Tryz.prog { frz:=[3],loops:=[([2,3,4,6,7],true)] } qik=some qj3:=by kernel_rfl
theorem qz3:comp Tryz.prog {  } qe3=some qlb:=by kernel_rfl
theorem qwm:comp Tryz.prog {  } qdy=some qiy:=by kernel_rfl
theorem q1f:comp Tryz.prog { mI:=[13] } qfv=some qmc:=by kernel_rfl
theorem qxn:comp Tryz.prog {  } qee=some qjt:=by kernel_rfl
theorem qk9:comp Tryz.prog { own:=[2],loops:=[([2],true)] } qar=some qb2:=by kernel_rfl
theorem q3t:comp Tryz.prog { loops:=[([0,1,2],true)] } qdp=some qm9:=by kernel_rfl
theorem ql6:comp Tryz.prog { loops:=[([0,1,2,3,8],true),([0,1,2,3,8,9],true)] } qai=some qco:=by kernel_rfl
theorem qoc:comp Tryz.prog { mI:=[191,205,219],loops:=[([0,1,4,10,11],true),([0,10,13],true),([0,2,4,14,15],true),([0,14,17],true),([0,1,2,3,4,18,19,20,21,22],true)] } qx=some qa3:=by kernel_rfl
theorem qagk:comp Tryz.prog { loops:=[([3,6,7,8],true)] } qnn=some qrx:=by kernel_rfl
theorem q9j:comp Tryz.prog {  } qhv=some qp6:=by kernel_rfl
theorem qux:comp Tryz.prog { loops:=[([0,1,9,10,11],true)] } qc3=some qc5:=by kernel_rfl
theorem qf4:comp Tryz.prog { frz:=[4],loops:=[([0,2,4,8,9,10],true)] } qs=some qae:=by kernel_rfl
theorem q3l:comp Tryz.prog { frz:=[2] } qdo=some qnc:=by kernel_rfl
theorem qzt:comp Tryz.prog { frz:=[3] } qgy=some qoi:=by kernel_rfl
theorem qafa:comp Tryz.prog { frz:=[5],appN:=[134],frzv:=[141] } qdv=some qd9:=by kernel_rfl
theorem qzc:comp Tryz.prog {  } qdr=some qkc:=by kernel_rfl
theorem qvt:comp Tryz.prog { frz:=[3],mI:=[14,15],ldF:=[7] } qb5=some qh4:=by kernel_rfl
theorem qv0:comp Tryz.prog { frz:=[3],mI:=[13] } qb3=some qib:=by kernel_rfl
theorem quj:comp Tryz.prog { frz:=[3],mI:=[7,21,22],mR:=[9],ldF:=[12] } qbu=some qhq:=by kernel_rfl
theorem qv1:comp Tryz.prog { frz:=[3],mI:=[7] } qbm=some qgb:=by kernel_rfl
theorem quk:comp Tryz.prog { frz:=[3],mI:=[33,34],ldF:=[30] } qbv=some qfh:=by kernel_rfl
theorem qwq:comp Tryz.prog { frz:=[3] } qce=some qgv:=by kernel_rfl
theorem qv2:comp Tryz.prog { frz:=[3],mI:=[17],ldF:=[19] } qb7=some qdj:=by kernel_rfl
theorem qwz:comp Tryz.prog { frz:=[3] } qcg=some qio:=by kernel_rfl
theorem qop:comp Tryz.prog { mI:=[31,46,57],loops:=[([0,2,4,10,11],true)] } qa0=some qd0:=by kernel_rfl
theorem q1t:comp Tryz.prog {  } qfw=some qpm:=by kernel_rfl
theorem q3r:comp Tryz.prog {  } qh8=some qpy:=by kernel_rfl
theorem qaau:comp Tryz.prog { appN:=[36],frzv:=[41],ldx:=[(32,6),(45,6)] } qgj=some qot:=by kernel_rfl
theorem q4w:comp Tryz.prog { appN:=[8] } qgg=some qoa:=by kernel_rfl
theorem qth:comp Tryz.prog {  } qa8=some qe0:=by kernel_rfl
theorem qwj:comp Tryz.prog {  } qcf=some qip:=by kernel_rfl
theorem qne:comp Tryz.prog { loops:=[([0,1,2,3,10],true)] } qaj=some qc7:=by kernel_rfl
theorem qad3:comp Tryz.prog { appN:=[8] } qmn=some qsq:=by kernel_rfl
theorem qlj:q0m Tryz.prog qaf=some (1,24):=by kernel_rfl
theorem qq3:q0m Tryz.prog qd4=some (4,48):=by kernel_rfl
theorem qvq:q0m Tryz.prog qgx=some (1,8):=by kernel_rfl
theorem qlz:q0m Tryz.prog qay=some (6,64):=by kernel_rfl
theorem qpi:q0m Tryz.prog qc1=some (4,48):=by kernel_rfl
theorem qlt:InsB Tryz.prog qa2 6 64 183 55 4:=⟨by kernel_rfl,by kernel_rfl,by kernel_rfl,by kernel_rfl,by kernel_rfl,by kernel_rfl,by kernel_rfl,by kernel_rfl,by kernel_rfl,by kernel_rfl,by kernel_rfl,by kernel_rfl,by kernel_rfl,by kernel_rfl,by kernel_rfl,by kernel_rfl,by kernel_rfl,by kernel_rfl,by kernel_rfl,by kernel_rfl,by kernel_rfl,by kernel_rfl,by kernel_rfl,by kernel_rfl⟩
def codeL:List (Nat×CFunc):=[(qcs,qbg),(qng,q0f),(qj6,qke),(qez,qks),(qq1,q03),(qml,qs4),(qmk,qs6),(qi0,qrs),(qnr,qtt),(qgu,qm8),(qjh,qlo),(qlw,qu4),(qgn,qnf),(qi2,qoq),(qdx,qiu),(qdg,qin),(qeu,qjb),(qgz,qo9),(qnq,qvi),(qnj,qzp),(qmm,qfo),(ql4,qkt),(ql7,qit),(qdn,qrg),(qkl,qvg),(qfr,qo4),(qgw,qic),(qk0,qhr),(qjj,qqe),(qjr,qqa),(qer,qc6),(qn,qcp),(ql8,qmh),(qih,qew),(qde,qed),(qcd,qg8),(qci,qho),(qc0,qiw),(qcc,qd3),(qex,qo0),(qji,qp4),(qky,qrb),(qie,qoz),(qk1,qor),(qi1,qrh),(qf0,qlx),(qk3,qrd),(qmj,qsj),(qjf,qqc),(qmd,qsn),(qmo,qsh),(qhx,qp0),(qkw,qri),(qhi,qd6),(qfg,qno),(qpa,q2j),(qct,qil),(qas,qbt),(qhp,qsv),(qiv,qsy),(qen,qp7),(qfm,qo8),(qec,qhd),(qbw,qgr),(qjc,qlk),(qc2,qfk),(qcm,qhn),(qdi,qf7),(qby,qgp),(qfp,qo5),(qkp,qsk),(qef,qna),(qep,qkb),(qg3,qo7),(qg1,qo6),(qeb,qjw),(qbx,qe4),(qgk,qk2),(qe7,qnb),(qht,qnx),(qkx,qrc),(qnh,qx5),(qhu,qp5),(qev,qjk),(qn6,qx1),(qeg,qki),(qfy,qme),(qcz,qkn),(qfl,qbi),(qcx,qey),(qa1,qo2),(qal,qju),(qaa,qa7),(qac,qid),(qag,qis),(qjm,qp2),(qad,qbk),(qe,qga),(qd2,qiq),(qdh,qf5),(qdz,qir),(qdt,qhz),(qkr,qsg),(qpl,qx9),(qgc,qd7),(qly,qsx),(qnt,qpq),(qhw,qbz),(qma,qs1),(qkz,qom),(qgs,qli),(qcj,qgf),(qdf,qld),(qck,qko),(qb9,qjl),(qah,qf6),(qch,qei),(qaq,qbb),(qca,qfn),(qii,qoy),(qa6,qdw),(ql0,qsf),(qgh,qi9),(qfx,ql1),(qcl,qfa),(qk5,qm4),(qg2,qo1),(qig,qmz),(qpf,q3e),(qdl,qi6),(qf2,qx8),(qik,qj3),(qe3,qlb),(qdy,qiy),(qfv,qmc),(qee,qjt),(qar,qb2),(qdp,qm9),(qai,qco),(qx,qa3),(qnn,qrx),(qhv,qp6),(qc3,qc5),(qs,qae),(qdo,qnc),(qgy,qoi),(qdv,qd9),(qdr,qkc),(qb5,qh4),(qb3,qib),(qbu,qhq),(qbm,qgb),(qbv,qfh),(qce,qgv),(qb7,qdj),(qcg,qio),(qa0,qd0),(qfw,qpm),(qh8,qpy),(qgj,qot),(qgg,qoa),(qa8,qe0),(qcf,qip),(qaj,qc7),(qmn,qsq)]
def extL:List (Nat×(Nat×Nat)):=[(qaf,(1,24)),(qd4,(4,48)),(qgx,(1,8)),(qay,(6,64)),(qc1,(4,48))]
def insL:List (Nat×(Nat×Nat)):=[(qa2,(6,64))]
def qaiz {α:Type}:List (Nat×α)→Nat→Option α
 | [],_=>none
 |(k,x)::l,i=>if k=i then some x else qaiz l i
theorem q4q {α:Type} : ∀ {l:List (Nat×α)} {i:Nat} {x:α},qaiz l i=some x→(i,x)∈l
 | [],_,_,h=>by simp[qaiz]at h
 |(k,y)::l,i,x,h=>by
  simp only[qaiz]at h
  split at h
  ·rename_i hk;subst hk;cases h;simp
  ·exact List.mem_cons_of_mem _ (q4q h)
def T:Tab:={ code:=qaiz codeL,ext:=fun k=>(qaiz extL k).map fun p=>qu0 p.1 p.2,ins:=qaiz insL }
theorem codeL_ok : ∀x∈codeL,∃h,comp Tryz.prog h x.1=some x.2:=by
 intro x hx
 simp only[codeL,wC,List.not_mem_nil,or_false]at hx
 rcases hx with rfl|rfl|rfl|rfl|rfl|rfl|rfl|rfl|rfl|rfl|rfl|rfl|rfl|rfl|rfl|rfl|rfl|rfl|rfl|rfl|rfl|rfl|rfl|rfl|rfl|rfl|rfl|rfl|rfl|rfl|rfl|rfl|rfl|rfl|rfl|rfl|rfl|rfl|rfl|rfl|rfl|rfl|rfl|rfl|rfl|rfl|rfl|rfl|rfl|rfl|rfl|rfl|rfl|rfl|rfl|rfl|rfl|rfl|rfl|rfl|rfl|rfl|rfl|rfl|rfl|rfl|rfl|rfl|rfl|rfl|rfl|rfl|rfl|rfl|rfl|rfl|rfl|rfl|rfl|rfl|rfl|rfl|rfl|rfl|rfl|rfl|rfl|rfl|rfl|rfl|rfl|rfl|rfl|rfl|rfl|rfl|rfl|rfl|rfl|rfl|rfl|rfl|rfl|rfl|rfl|rfl|rfl|rfl|rfl|rfl|rfl|rfl|rfl|rfl|rfl|rfl|rfl|rfl|rfl|rfl|rfl|rfl|rfl|rfl|rfl|rfl|rfl|rfl|rfl|rfl|rfl|rfl|rfl|rfl|rfl|rfl|rfl|rfl|rfl|rfl|rfl|rfl|rfl|rfl|rfl|rfl|rfl|rfl|rfl|rfl|rfl|rfl|rfl|rfl|rfl|rfl|rfl|rfl|rfl|rfl|rfl|rfl|rfl|rfl|rfl
 ·exact⟨_,qqw⟩
 ·exact⟨_,qaf8⟩
 ·exact⟨_,qac5⟩
 ·exact⟨_,qadc⟩
 ·exact⟨_,qai9⟩
 ·exact⟨_,qad1⟩
 ·exact⟨_,qac2⟩
 ·exact⟨_,qagb⟩
 ·exact⟨_,qahy⟩
 ·exact⟨_,q2y⟩
 ·exact⟨_,q9h⟩
 ·exact⟨_,qagq⟩
 ·exact⟨_,q79⟩
 ·exact⟨_,qaad⟩
 ·exact⟨_,qw6⟩
 ·exact⟨_,q0b⟩
 ·exact⟨_,q1h⟩
 ·exact⟨_,q6a⟩
 ·exact⟨_,qafm⟩
 ·exact⟨_,qagh⟩
 ·exact⟨_,qads⟩
 ·exact⟨_,qad4⟩
 ·exact⟨_,qadr⟩
 ·exact⟨_,qacr⟩
 ·exact⟨_,qafy⟩
 ·exact⟨_,q6d⟩
 ·exact⟨_,q2p⟩
 ·exact⟨_,qaa6⟩
 ·exact⟨_,q8u⟩
 ·exact⟨_,q9u⟩
 ·exact⟨_,q1j⟩
 ·exact⟨_,qmb⟩
 ·exact⟨_,qac3⟩
 ·exact⟨_,q6k⟩
 ·exact⟨_,qxu⟩
 ·exact⟨_,qtq⟩
 ·exact⟨_,qug⟩
 ·exact⟨_,qwp⟩
 ·exact⟨_,qrm⟩
 ·exact⟨_,q63⟩
 ·exact⟨_,q8b⟩
 ·exact⟨_,qabs⟩
 ·exact⟨_,q7d⟩
 ·exact⟨_,qaco⟩
 ·exact⟨_,qaag⟩
 ·exact⟨_,q1n⟩
 ·exact⟨_,qacu⟩
 ·exact⟨_,qadj⟩
 ·exact⟨_,q8t⟩
 ·exact⟨_,qadi⟩
 ·exact⟨_,qadu⟩
 ·exact⟨_,q9a⟩
 ·exact⟨_,qab0⟩
 ·exact⟨_,q5o⟩
 ·exact⟨_,q8n⟩
 ·exact⟨_,qaht⟩
 ·exact⟨_,qzf⟩
 ·exact⟨_,qm5⟩
 ·exact⟨_,qad0⟩
 ·exact⟨_,qadp⟩
 ·exact⟨_,q8h⟩
 ·exact⟨_,q7i⟩
 ·exact⟨_,qx6⟩
 ·exact⟨_,qs7⟩
 ·exact⟨_,q8y⟩
 ·exact⟨_,quy⟩
 ·exact⟨_,qut⟩
 ·exact⟨_,qvo⟩
 ·exact⟨_,qs2⟩
 ·exact⟨_,q5z⟩
 ·exact⟨_,qac8⟩
 ·exact⟨_,q2h⟩
 ·exact⟨_,qy0⟩
 ·exact⟨_,q6u⟩
 ·exact⟨_,q7f⟩
 ·exact⟨_,qyb⟩
 ·exact⟨_,qq8⟩
 ·exact⟨_,qab3⟩
 ·exact⟨_,q2q⟩
 ·exact⟨_,q8e⟩
 ·exact⟨_,qacv⟩
 ·exact⟨_,qahp⟩
 ·exact⟨_,q9c⟩
 ·exact⟨_,q1r⟩
 ·exact⟨_,qado⟩
 ·exact⟨_,q2t⟩
 ·exact⟨_,q1l⟩
 ·exact⟨_,qyw⟩
 ·exact⟨_,qabv⟩
 ·exact⟨_,qw5⟩
 ·exact⟨_,q7v⟩
 ·exact⟨_,qxt⟩
 ·exact⟨_,qtr⟩
 ·exact⟨_,qwa⟩
 ·exact⟨_,qw9⟩
 ·exact⟨_,q8d⟩
 ·exact⟨_,qjp⟩
 ·exact⟨_,qy9⟩
 ·exact⟨_,qwv⟩
 ·exact⟨_,qv3⟩
 ·exact⟨_,qwn⟩
 ·exact⟨_,qyz⟩
 ·exact⟨_,qadq⟩
 ·exact⟨_,qahs⟩
 ·exact⟨_,q4d⟩
 ·exact⟨_,qadh⟩
 ·exact⟨_,qafk⟩
 ·exact⟨_,qaf6⟩
 ·exact⟨_,qadt⟩
 ·exact⟨_,qacs⟩
 ·exact⟨_,q9v⟩
 ·exact⟨_,qzb⟩
 ·exact⟨_,q0a⟩
 ·exact⟨_,qy7⟩
 ·exact⟨_,q1v⟩
 ·exact⟨_,qvj⟩
 ·exact⟨_,qr7⟩
 ·exact⟨_,qla⟩
 ·exact⟨_,qrn⟩
 ·exact⟨_,q6z⟩
 ·exact⟨_,qou⟩
 ·exact⟨_,qad5⟩
 ·exact⟨_,q5r⟩
 ·exact⟨_,q1c⟩
 ·exact⟨_,qub⟩
 ·exact⟨_,qabt⟩
 ·exact⟨_,q61⟩
 ·exact⟨_,q7g⟩
 ·exact⟨_,qahe⟩
 ·exact⟨_,q4n⟩
 ·exact⟨_,qaha⟩
 ·exact⟨_,q5u⟩
 ·exact⟨_,qz3⟩
 ·exact⟨_,qwm⟩
 ·exact⟨_,q1f⟩
 ·exact⟨_,qxn⟩
 ·exact⟨_,qk9⟩
 ·exact⟨_,q3t⟩
 ·exact⟨_,ql6⟩
 ·exact⟨_,qoc⟩
 ·exact⟨_,qagk⟩
 ·exact⟨_,q9j⟩
 ·exact⟨_,qux⟩
 ·exact⟨_,qf4⟩
 ·exact⟨_,q3l⟩
 ·exact⟨_,qzt⟩
 ·exact⟨_,qafa⟩
 ·exact⟨_,qzc⟩
 ·exact⟨_,qvt⟩
 ·exact⟨_,qv0⟩
 ·exact⟨_,quj⟩
 ·exact⟨_,qv1⟩
 ·exact⟨_,quk⟩
 ·exact⟨_,qwq⟩
 ·exact⟨_,qv2⟩
 ·exact⟨_,qwz⟩
 ·exact⟨_,qop⟩
 ·exact⟨_,q1t⟩
 ·exact⟨_,q3r⟩
 ·exact⟨_,qaau⟩
 ·exact⟨_,q4w⟩
 ·exact⟨_,qth⟩
 ·exact⟨_,qwj⟩
 ·exact⟨_,qne⟩
 ·exact⟨_,qad3⟩
theorem extL_ok : ∀x∈extL,q0m Tryz.prog x.1=some x.2:=by
 intro x hx
 simp only[extL,wC,List.not_mem_nil,or_false]at hx
 rcases hx with rfl|rfl|rfl|rfl|rfl
 ·exact qlj
 ·exact qq3
 ·exact qvq
 ·exact qlz
 ·exact qpi
theorem mixed:Tryz.prog.follows .mixedOrders=true:=by kernel_rfl
theorem insL_ok : ∀x∈insL,InsOk Tryz.prog x.1 (insF x.2.1 x.2.2):=by
 intro x hx
 simp only[insL,wC,List.not_mem_nil,or_false]at hx
 rcases hx with rfl
 ·exact ins_ok mixed qlt
theorem T_ok:TabOk Tryz.prog T where
 code k f h:=codeL_ok _ (q4q h)
 ext k F h:=by
  simp only[T,Option.map_eq_some_iff]at h
  obtain⟨p,h1,rfl⟩:=h
  exact clone_ok mixed (extL_ok _ (q4q h1))
 ins k p h:=insL_ok (k,p) (q4q h)
 mixed:=mixed
theorem qkf:T.code qcs=some qbg:=rfl
theorem qaok:T.code qng=some q0f:=rfl
theorem q9k:T.code qj6=some qke:=rfl
theorem q9s:T.code qez=some qks:=rfl
theorem qagp:T.code qq1=some q03:=rfl
theorem q8a:T.code qml=some qs4:=rfl
theorem q86:T.code qmk=some qs6:=rfl
theorem qzu:T.code qi0=some qrs:=rfl
theorem q2g:T.code qnr=some qtt:=rfl
theorem qz5:T.code qgu=some qm8:=rfl
theorem q5d:T.code qjh=some qlo:=rfl
theorem qabe:T.code qlw=some qu4:=rfl
theorem qu2:T.code qgn=some qnf:=rfl
theorem qww:T.code qi2=some qoq:=rfl
theorem qus:T.code qdx=some qiu:=rfl
theorem qqg:T.code qdg=some qin:=rfl
theorem qqr:T.code qeu=some qjb:=rfl
theorem q23:T.code qgz=some qo9:=rfl
theorem qabp:T.code qnq=some qvi:=rfl
theorem qaps:T.code qnj=some qzp:=rfl
theorem q8s:T.code qmm=some qfo:=rfl
theorem q8l:T.code ql4=some qkt:=rfl
theorem q8i:T.code ql7=some qit:=rfl
theorem q6r:T.code qdn=some qrg:=rfl
theorem qace:T.code qkl=some qvg:=rfl
theorem q2m:T.code qfr=some qo4:=rfl
theorem q0p:T.code qgw=some qic:=rfl
theorem q7c:T.code qk0=some qhr:=rfl
theorem q5p:T.code qjj=some qqe:=rfl
theorem q43:T.code qjr=some qqa:=rfl
theorem qy1:T.code qer=some qc6:=rfl
theorem qlr:T.code qn=some qcp:=rfl
theorem q9b:T.code ql8=some qmh:=rfl
theorem q2o:T.code qih=some qew:=rfl
theorem qv8:T.code qde=some qed:=rfl
theorem qr9:T.code qcd=some qg8:=rfl
theorem qsr:T.code qci=some qho:=rfl
theorem qud:T.code qc0=some qiw:=rfl
theorem qqq:T.code qcc=some qd3:=rfl
theorem q2u:T.code qex=some qo0:=rfl
theorem q4v:T.code qji=some qp4:=rfl
theorem q7l:T.code qky=some qrb:=rfl
theorem q2x:T.code qie=some qoz:=rfl
theorem q6y:T.code qk1=some qor:=rfl
theorem q58:T.code qi1=some qrh:=rfl
theorem qy5:T.code qf0=some qlx:=rfl
theorem q5w:T.code qk3=some qrd:=rfl
theorem q81:T.code qmj=some qsj:=rfl
theorem q4u:T.code qjf=some qqc:=rfl
theorem q9i:T.code qmd=some qsn:=rfl
theorem q9q:T.code qmo=some qsh:=rfl
theorem q5l:T.code qhx=some qp0:=rfl
theorem q7j:T.code qkw=some qri:=rfl
theorem q1e:T.code qhi=some qd6:=rfl
theorem q4l:T.code qfg=some qno:=rfl
theorem code_shmem_New:T.code qpa=some q2j:=rfl
theorem qxw:T.code qct=some qil:=rfl
theorem qmf:T.code qas=some qbt:=rfl
theorem q8j:T.code qhp=some qsv:=rfl
theorem q8m:T.code qiv=some qsy:=rfl
theorem q5a:T.code qen=some qp7:=rfl
theorem q3h:T.code qfm=some qo8:=rfl
theorem qwf:T.code qec=some qhd:=rfl
theorem qrw:T.code qbw=some qgr:=rfl
theorem q5h:T.code qjc=some qlk:=rfl
theorem qs0:T.code qc2=some qfk:=rfl
theorem qsp:T.code qcm=some qhn:=rfl
theorem qt5:T.code qdi=some qf7:=rfl
theorem qrk:T.code qby=some qgp:=rfl
theorem q3c:T.code qfp=some qo5:=rfl
theorem q88:T.code qkp=some qsk:=rfl
theorem qzm:T.code qef=some qna:=rfl
theorem qxb:T.code qep=some qkb:=rfl
theorem q22:T.code qg3=some qo7:=rfl
theorem q25:T.code qg1=some qo6:=rfl
theorem qvz:T.code qeb=some qjw:=rfl
theorem qpz:T.code qbx=some qe4:=rfl
theorem q7s:T.code qgk=some qk2:=rfl
theorem qzn:T.code qe7=some qnb:=rfl
theorem q4z:T.code qht=some qnx:=rfl
theorem q7a:T.code qkx=some qrc:=rfl
theorem qadw:T.code qnh=some qx5:=rfl
theorem q5f:T.code qhu=some qp5:=rfl
theorem qy2:T.code qev=some qjk:=rfl
theorem qamu:T.code qn6=some qx1:=rfl
theorem qrz:T.code qeg=some qki:=rfl
theorem qy6:T.code qfy=some qme:=rfl
theorem qxi:T.code qcz=some qkn:=rfl
theorem qn9:T.code qfl=some qbi:=rfl
theorem qur:T.code qcx=some qey:=rfl
theorem q3i:T.code qa1=some qo2:=rfl
theorem qv7:T.code qal=some qju:=rfl
theorem qr8:T.code qaa=some qa7:=rfl
theorem qtc:T.code qac=some qid:=rfl
theorem que:T.code qag=some qis:=rfl
theorem q4m:T.code qjm=some qp2:=rfl
theorem qix:T.code qad=some qbk:=rfl
theorem qln:T.code qe=some qga:=rfl
theorem quc:T.code qd2=some qiq:=rfl
theorem qtn:T.code qdh=some qf5:=rfl
theorem qua:T.code qdz=some qir:=rfl
theorem qw2:T.code qdt=some qhz:=rfl
theorem q9p:T.code qkr=some qsg:=rfl
theorem qadb:T.code qpl=some qx9:=rfl
theorem q1s:T.code qgc=some qd7:=rfl
theorem q84:T.code qly=some qsx:=rfl
theorem qaa5:T.code qnt=some qpq:=rfl
theorem qp9:T.code qhw=some qbz:=rfl
theorem q8o:T.code qma=some qs1:=rfl
theorem qxf:T.code qkz=some qom:=rfl
theorem q4a:T.code qgs=some qli:=rfl
theorem qll:T.code qcj=some qgf:=rfl
theorem qxo:T.code qdf=some qld:=rfl
theorem qxa:T.code qck=some qko:=rfl
theorem qyy:T.code qb9=some qjl:=rfl
theorem qni:T.code qah=some qf6:=rfl
theorem qqz:T.code qch=some qei:=rfl
theorem qka:T.code qaq=some qbb:=rfl
theorem qql:T.code qca=some qfn:=rfl
theorem q3k:T.code qii=some qoy:=rfl
theorem qn7:T.code qa6=some qdw:=rfl
theorem q83:T.code ql0=some qsf:=rfl
theorem q1i:T.code qgh=some qi9:=rfl
theorem qyx:T.code qfx=some ql1:=rfl
theorem qsu:T.code qcl=some qfa:=rfl
theorem q6w:T.code qk5=some qm4:=rfl
theorem q2w:T.code qg2=some qo1:=rfl
theorem qt7:T.code qig=some qmz:=rfl
theorem code_ref01_New:T.code qpf=some q3e:=rfl
theorem qoj:T.code qdl=some qi6:=rfl
theorem qadz:T.code qf2=some qx8:=rfl
theorem q2s:T.code qik=some qj3:=rfl
theorem qxx:T.code qe3=some qlb:=rfl
theorem quq:T.code qdy=some qiy:=rfl
theorem qy8:T.code qfv=some qmc:=rfl
theorem qvl:T.code qee=some qjt:=rfl
theorem qkg:T.code qar=some qb2:=rfl
theorem q0q:T.code qdp=some qm9:=rfl
theorem qlf:T.code qai=some qco:=rfl
theorem qek:T.code qx=some qa3:=rfl
theorem qaat:T.code qnn=some qrx:=rfl
theorem q4e:T.code qhv=some qp6:=rfl
theorem qs3:T.code qc3=some qc5:=rfl
theorem qfq:T.code qs=some qae:=rfl
theorem q0l:T.code qdo=some qnc:=rfl
theorem qafb:T.code qgy=some qoi:=rfl
theorem qdm:T.code qdv=some qd9:=rfl
theorem qxj:T.code qdr=some qkc:=rfl
theorem qt3:T.code qb5=some qh4:=rfl
theorem qti:T.code qb3=some qib:=rfl
theorem qse:T.code qbu=some qhq:=rfl
theorem qt1:T.code qbm=some qgb:=rfl
theorem qsm:T.code qbv=some qfh:=rfl
theorem quu:T.code qce=some qgv:=rfl
theorem qt8:T.code qb7=some qdj:=rfl
theorem qup:T.code qcg=some qio:=rfl
theorem qn4:T.code qa0=some qd0:=rfl
theorem qagu:T.code qfw=some qpm:=rfl
theorem qahk:T.code qh8=some qpy:=rfl
theorem q5x:T.code qgj=some qot:=rfl
theorem q1q:T.code qgg=some qoa:=rfl
theorem qr5:T.code qa8=some qe0:=rfl
theorem qui:T.code qcf=some qip:=rfl
theorem qm6:T.code qaj=some qc7:=rfl
theorem q8r:T.code qmn=some qsq:=rfl
theorem qqm:T.ext qcs=none∧T.ins qcs=none:=⟨rfl,rfl⟩
theorem ext_law25_head:T.ext qng=none∧T.ins qng=none:=⟨rfl,rfl⟩
theorem qab1:T.ext qj6=none∧T.ins qj6=none:=⟨rfl,rfl⟩
theorem qaap:T.ext qez=none∧T.ins qez=none:=⟨rfl,rfl⟩
theorem qaia:T.ext qq1=none∧T.ins qq1=none:=⟨rfl,rfl⟩
theorem qacp:T.ext qml=none∧T.ins qml=none:=⟨rfl,rfl⟩
theorem qaak:T.ext qmk=none∧T.ins qmk=none:=⟨rfl,rfl⟩
theorem q2d:T.ext qi0=none∧T.ins qi0=none:=⟨rfl,rfl⟩
theorem q33:T.ext qnr=none∧T.ins qnr=none:=⟨rfl,rfl⟩
theorem q1g:T.ext qgu=none∧T.ins qgu=none:=⟨rfl,rfl⟩
theorem q6g:T.ext qjh=none∧T.ins qjh=none:=⟨rfl,rfl⟩
theorem qadf:T.ext qlw=none∧T.ins qlw=none:=⟨rfl,rfl⟩
theorem qw0:T.ext qgn=none∧T.ins qgn=none:=⟨rfl,rfl⟩
theorem qyp:T.ext qi2=none∧T.ins qi2=none:=⟨rfl,rfl⟩
theorem qvs:T.ext qdx=none∧T.ins qdx=none:=⟨rfl,rfl⟩
theorem qqs:T.ext qdg=none∧T.ins qdg=none:=⟨rfl,rfl⟩
theorem qro:T.ext qeu=none∧T.ins qeu=none:=⟨rfl,rfl⟩
theorem q4y:T.ext qgz=none∧T.ins qgz=none:=⟨rfl,rfl⟩
theorem qadn:T.ext qnq=none∧T.ins qnq=none:=⟨rfl,rfl⟩
theorem ext_law19_Base:T.ext qnj=none∧T.ins qnj=none:=⟨rfl,rfl⟩
theorem qab6:T.ext qmm=none∧T.ins qmm=none:=⟨rfl,rfl⟩
theorem qabg:T.ext ql4=none∧T.ins ql4=none:=⟨rfl,rfl⟩
theorem qacn:T.ext ql7=none∧T.ins ql7=none:=⟨rfl,rfl⟩
theorem q8v:T.ext qdn=none∧T.ins qdn=none:=⟨rfl,rfl⟩
theorem qada:T.ext qkl=none∧T.ins qkl=none:=⟨rfl,rfl⟩
theorem q37:T.ext qfr=none∧T.ins qfr=none:=⟨rfl,rfl⟩
theorem q1p:T.ext qgw=none∧T.ins qgw=none:=⟨rfl,rfl⟩
theorem q85:T.ext qk0=none∧T.ins qk0=none:=⟨rfl,rfl⟩
theorem q6j:T.ext qjj=none∧T.ins qjj=none:=⟨rfl,rfl⟩
theorem q55:T.ext qjr=none∧T.ins qjr=none:=⟨rfl,rfl⟩
theorem qz0:T.ext qer=none∧T.ins qer=none:=⟨rfl,rfl⟩
theorem qls:T.ext qn=none∧T.ins qn=none:=⟨rfl,rfl⟩
theorem qacj:T.ext ql8=none∧T.ins ql8=none:=⟨rfl,rfl⟩
theorem q36:T.ext qih=none∧T.ins qih=none:=⟨rfl,rfl⟩
theorem qwt:T.ext qde=none∧T.ins qde=none:=⟨rfl,rfl⟩
theorem qsz:T.ext qcd=none∧T.ins qcd=none:=⟨rfl,rfl⟩
theorem qtu:T.ext qci=none∧T.ins qci=none:=⟨rfl,rfl⟩
theorem qvw:T.ext qc0=none∧T.ins qc0=none:=⟨rfl,rfl⟩
theorem qqv:T.ext qcc=none∧T.ins qcc=none:=⟨rfl,rfl⟩
theorem q5i:T.ext qex=none∧T.ins qex=none:=⟨rfl,rfl⟩
theorem q68:T.ext qji=none∧T.ins qji=none:=⟨rfl,rfl⟩
theorem q82:T.ext qky=none∧T.ins qky=none:=⟨rfl,rfl⟩
theorem q41:T.ext qie=none∧T.ins qie=none:=⟨rfl,rfl⟩
theorem q8w:T.ext qk1=none∧T.ins qk1=none:=⟨rfl,rfl⟩
theorem q9g:T.ext qi1=none∧T.ins qi1=none:=⟨rfl,rfl⟩
theorem qz6:T.ext qf0=none∧T.ins qf0=none:=⟨rfl,rfl⟩
theorem q8f:T.ext qk3=none∧T.ins qk3=none:=⟨rfl,rfl⟩
theorem qab8:T.ext qmj=none∧T.ins qmj=none:=⟨rfl,rfl⟩
theorem q56:T.ext qjf=none∧T.ins qjf=none:=⟨rfl,rfl⟩
theorem qaal:T.ext qmd=none∧T.ins qmd=none:=⟨rfl,rfl⟩
theorem qab2:T.ext qmo=none∧T.ins qmo=none:=⟨rfl,rfl⟩
theorem q54:T.ext qhx=none∧T.ins qhx=none:=⟨rfl,rfl⟩
theorem q8k:T.ext qkw=none∧T.ins qkw=none:=⟨rfl,rfl⟩
theorem q2i:T.ext qhi=none∧T.ins qhi=none:=⟨rfl,rfl⟩
theorem q6n:T.ext qfg=none∧T.ins qfg=none:=⟨rfl,rfl⟩
theorem ext_shmem_New:T.ext qpa=none∧T.ins qpa=none:=⟨rfl,rfl⟩
theorem qyu:T.ext qct=none∧T.ins qct=none:=⟨rfl,rfl⟩
theorem qmw:T.ext qas=none∧T.ins qas=none:=⟨rfl,rfl⟩
theorem qabb:T.ext qhp=none∧T.ins qhp=none:=⟨rfl,rfl⟩
theorem qab9:T.ext qiv=none∧T.ins qiv=none:=⟨rfl,rfl⟩
theorem q69:T.ext qen=none∧T.ins qen=none:=⟨rfl,rfl⟩
theorem q4o:T.ext qfm=none∧T.ins qfm=none:=⟨rfl,rfl⟩
theorem qxk:T.ext qec=none∧T.ins qec=none:=⟨rfl,rfl⟩
theorem qr1:T.ext qbw=none∧T.ins qbw=none:=⟨rfl,rfl⟩
theorem q5t:T.ext qjc=none∧T.ins qjc=none:=⟨rfl,rfl⟩
theorem qt2:T.ext qc2=none∧T.ins qc2=none:=⟨rfl,rfl⟩
theorem qto:T.ext qcm=none∧T.ins qcm=none:=⟨rfl,rfl⟩
theorem qum:T.ext qdi=none∧T.ins qdi=none:=⟨rfl,rfl⟩
theorem qr4:T.ext qby=none∧T.ins qby=none:=⟨rfl,rfl⟩
theorem q4s:T.ext qfp=none∧T.ins qfp=none:=⟨rfl,rfl⟩
theorem qaa4:T.ext qkp=none∧T.ins qkp=none:=⟨rfl,rfl⟩
theorem q1m:T.ext qef=none∧T.ins qef=none:=⟨rfl,rfl⟩
theorem qyh:T.ext qep=none∧T.ins qep=none:=⟨rfl,rfl⟩
theorem q5e:T.ext qg3=none∧T.ins qg3=none:=⟨rfl,rfl⟩
theorem q5b:T.ext qg1=none∧T.ins qg1=none:=⟨rfl,rfl⟩
theorem qwo:T.ext qeb=none∧T.ins qeb=none:=⟨rfl,rfl⟩
theorem qqo:T.ext qbx=none∧T.ins qbx=none:=⟨rfl,rfl⟩
theorem q8x:T.ext qgk=none∧T.ins qgk=none:=⟨rfl,rfl⟩
theorem q1b:T.ext qe7=none∧T.ins qe7=none:=⟨rfl,rfl⟩
theorem q6v:T.ext qht=none∧T.ins qht=none:=⟨rfl,rfl⟩
theorem q8p:T.ext qkx=none∧T.ins qkx=none:=⟨rfl,rfl⟩
theorem qafz:T.ext qnh=none∧T.ins qnh=none:=⟨rfl,rfl⟩
theorem q6e:T.ext qhu=none∧T.ins qhu=none:=⟨rfl,rfl⟩
theorem q0j:T.ext qev=none∧T.ins qev=none:=⟨rfl,rfl⟩
theorem qam4:T.ext qn6=none∧T.ins qn6=none:=⟨rfl,rfl⟩
theorem qsd:T.ext qeg=none∧T.ins qeg=none:=⟨rfl,rfl⟩
theorem qzg:T.ext qfy=none∧T.ins qfy=none:=⟨rfl,rfl⟩
theorem qx3:T.ext qcz=none∧T.ins qcz=none:=⟨rfl,rfl⟩
theorem qox:T.ext qfl=none∧T.ins qfl=none:=⟨rfl,rfl⟩
theorem qv5:T.ext qcx=none∧T.ins qcx=none:=⟨rfl,rfl⟩
theorem q35:T.ext qa1=none∧T.ins qa1=none:=⟨rfl,rfl⟩
theorem qxl:T.ext qal=none∧T.ins qal=none:=⟨rfl,rfl⟩
theorem qsw:T.ext qaa=none∧T.ins qaa=none:=⟨rfl,rfl⟩
theorem qul:T.ext qac=none∧T.ins qac=none:=⟨rfl,rfl⟩
theorem qvm:T.ext qag=none∧T.ins qag=none:=⟨rfl,rfl⟩
theorem q6m:T.ext qjm=none∧T.ins qjm=none:=⟨rfl,rfl⟩
theorem qi7:T.ext qad=none∧T.ins qad=none:=⟨rfl,rfl⟩
theorem ql2:T.ext qe=none∧T.ins qe=none:=⟨rfl,rfl⟩
theorem qwg:T.ext qd2=none∧T.ins qd2=none:=⟨rfl,rfl⟩
theorem qun:T.ext qdh=none∧T.ins qdh=none:=⟨rfl,rfl⟩
theorem qvk:T.ext qdz=none∧T.ins qdz=none:=⟨rfl,rfl⟩
theorem qyf:T.ext qdt=none∧T.ins qdt=none:=⟨rfl,rfl⟩
theorem qaaz:T.ext qkr=none∧T.ins qkr=none:=⟨rfl,rfl⟩
theorem qagl:T.ext qpl=none∧T.ins qpl=none:=⟨rfl,rfl⟩
theorem q3p:T.ext qgc=none∧T.ins qgc=none:=⟨rfl,rfl⟩
theorem qacb:T.ext qly=none∧T.ins qly=none:=⟨rfl,rfl⟩
theorem qadv:T.ext qnt=none∧T.ins qnt=none:=⟨rfl,rfl⟩
theorem qrf:T.ext qhw=none∧T.ins qhw=none:=⟨rfl,rfl⟩
theorem qaa0:T.ext qma=none∧T.ins qma=none:=⟨rfl,rfl⟩
theorem qyt:T.ext qkz=none∧T.ins qkz=none:=⟨rfl,rfl⟩
theorem q7h:T.ext qgs=none∧T.ins qgs=none:=⟨rfl,rfl⟩
theorem qmg:T.ext qcj=none∧T.ins qcj=none:=⟨rfl,rfl⟩
theorem qza:T.ext qdf=none∧T.ins qdf=none:=⟨rfl,rfl⟩
theorem qxs:T.ext qck=none∧T.ins qck=none:=⟨rfl,rfl⟩
theorem q0h:T.ext qb9=none∧T.ins qb9=none:=⟨rfl,rfl⟩
theorem qod:T.ext qah=none∧T.ins qah=none:=⟨rfl,rfl⟩
theorem qry:T.ext qch=none∧T.ins qch=none:=⟨rfl,rfl⟩
theorem qkv:T.ext qaq=none∧T.ins qaq=none:=⟨rfl,rfl⟩
theorem qq7:T.ext qca=none∧T.ins qca=none:=⟨rfl,rfl⟩
theorem q4k:T.ext qii=none∧T.ins qii=none:=⟨rfl,rfl⟩
theorem qok:T.ext qa6=none∧T.ins qa6=none:=⟨rfl,rfl⟩
theorem qabo:T.ext ql0=none∧T.ins ql0=none:=⟨rfl,rfl⟩
theorem q3x:T.ext qgh=none∧T.ins qgh=none:=⟨rfl,rfl⟩
theorem q0e:T.ext qfx=none∧T.ins qfx=none:=⟨rfl,rfl⟩
theorem qnm:T.ext qcl=none∧T.ins qcl=none:=⟨rfl,rfl⟩
theorem q8q:T.ext qk5=none∧T.ins qk5=none:=⟨rfl,rfl⟩
theorem q4g:T.ext qg2=none∧T.ins qg2=none:=⟨rfl,rfl⟩
theorem qvd:T.ext qig=none∧T.ins qig=none:=⟨rfl,rfl⟩
theorem ext_ref01_New:T.ext qpf=none∧T.ins qpf=none:=⟨rfl,rfl⟩
theorem qpj:T.ext qdl=none∧T.ins qdl=none:=⟨rfl,rfl⟩
theorem qafl:T.ext qf2=none∧T.ins qf2=none:=⟨rfl,rfl⟩
theorem q4x:T.ext qik=none∧T.ins qik=none:=⟨rfl,rfl⟩
theorem qy3:T.ext qe3=none∧T.ins qe3=none:=⟨rfl,rfl⟩
theorem qwb:T.ext qdy=none∧T.ins qdy=none:=⟨rfl,rfl⟩
theorem qzi:T.ext qfv=none∧T.ins qfv=none:=⟨rfl,rfl⟩
theorem qwr:T.ext qee=none∧T.ins qee=none:=⟨rfl,rfl⟩
theorem qk6:T.ext qar=none∧T.ins qar=none:=⟨rfl,rfl⟩
theorem qsb:T.ext qdp=none∧T.ins qdp=none:=⟨rfl,rfl⟩
theorem qlv:T.ext qai=none∧T.ins qai=none:=⟨rfl,rfl⟩
theorem qeq:T.ext qx=none∧T.ins qx=none:=⟨rfl,rfl⟩
theorem qac9:T.ext qnn=none∧T.ins qnn=none:=⟨rfl,rfl⟩
theorem q6h:T.ext qhv=none∧T.ins qhv=none:=⟨rfl,rfl⟩
theorem qtx:T.ext qc3=none∧T.ins qc3=none:=⟨rfl,rfl⟩
theorem qft:T.ext qs=none∧T.ins qs=none:=⟨rfl,rfl⟩
theorem q1k:T.ext qdo=none∧T.ins qdo=none:=⟨rfl,rfl⟩
theorem qagt:T.ext qgy=none∧T.ins qgy=none:=⟨rfl,rfl⟩
theorem qd5:T.ext qdv=none∧T.ins qdv=none:=⟨rfl,rfl⟩
theorem qya:T.ext qdr=none∧T.ins qdr=none:=⟨rfl,rfl⟩
theorem quv:T.ext qb5=none∧T.ins qb5=none:=⟨rfl,rfl⟩
theorem quf:T.ext qb3=none∧T.ins qb3=none:=⟨rfl,rfl⟩
theorem qtf:T.ext qbu=none∧T.ins qbu=none:=⟨rfl,rfl⟩
theorem quw:T.ext qbm=none∧T.ins qbm=none:=⟨rfl,rfl⟩
theorem qtm:T.ext qbv=none∧T.ins qbv=none:=⟨rfl,rfl⟩
theorem qv9:T.ext qce=none∧T.ins qce=none:=⟨rfl,rfl⟩
theorem quh:T.ext qb7=none∧T.ins qb7=none:=⟨rfl,rfl⟩
theorem qvp:T.ext qcg=none∧T.ins qcg=none:=⟨rfl,rfl⟩
theorem qol:T.ext qa0=none∧T.ins qa0=none:=⟨rfl,rfl⟩
theorem qag3:T.ext qfw=none∧T.ins qfw=none:=⟨rfl,rfl⟩
theorem qain:T.ext qh8=none∧T.ins qh8=none:=⟨rfl,rfl⟩
theorem q9w:T.ext qgj=none∧T.ins qgj=none:=⟨rfl,rfl⟩
theorem q3g:T.ext qgg=none∧T.ins qgg=none:=⟨rfl,rfl⟩
theorem qsl:T.ext qa8=none∧T.ins qa8=none:=⟨rfl,rfl⟩
theorem qv4:T.ext qcf=none∧T.ins qcf=none:=⟨rfl,rfl⟩
theorem qnd:T.ext qaj=none∧T.ins qaj=none:=⟨rfl,rfl⟩
theorem qabz:T.ext qmn=none∧T.ins qmn=none:=⟨rfl,rfl⟩
theorem qgd:T.ext qaf=some (qu0 1 24):=rfl
theorem qq5:T.ext qd4=some (qu0 4 48):=rfl
theorem qv6:T.ext qgx=some (qu0 1 8):=rfl
theorem ql9:T.ext qay=some (qu0 6 64):=rfl
theorem qpk:T.ext qc1=some (qu0 4 48):=rfl
theorem qlu:T.ins qa2=some (6,64):=rfl
theorem qlh:T.ext qa2=none:=rfl
def qy (n:Int):List AV:=[(ii n)]
theorem int_lo (n:Nat) (x:Int):los n (qy x)=true:=rfl
theorem int_pl (x:Int):(qy x).length=1∧qfb (qy x)=true:=⟨rfl,rfl⟩
theorem qg (n:Nat) (l:List Int):qb4 n (l.map qy)=true:=qjs (int_lo n) l
theorem qaar (l:List Int):qbs 1 (l.map qy)=true:=qpn int_pl l
def qh7 (l:List Int):List AV:=[(.fsl ((l).map qy) false)]
theorem key_lo (n:Nat) (l:List Int):los n (qh7 l)=true:=by simp only[qh7,los,AV.lo,qg,zfc]
theorem key_pl (l:List Int):(qh7 l).length=1∧qfb (qh7 l)=true:=⟨rfl,rfl⟩
theorem qbj (n:Nat) (l:List (List Int)):qb4 n (l.map qh7)=true:=qjs (key_lo n) l
theorem keys_ok (l:List (List Int)):qbs 1 (l.map qh7)=true:=qpn key_pl l
structure OpI where
 code:Int
 a:Int
 b:Int
 c:Int
 deriving DecidableEq
def OpI.r (x:OpI):List AV:=[(ii x.code),(ii x.a),(ii x.b),(ii x.c)]
theorem op_lo (n:Nat) (x:OpI):los n x.r=true:=rfl
theorem qij (n:Nat) (l:List OpI):qb4 n (l.map OpI.r)=true:=qjs (op_lo n) l
def qau (p:List OpI):List AV:=[(.fsl ((p).map OpI.r) false)]
theorem progC_lo (n:Nat) (l:List OpI):los n (qau l)=true:=by simp only[qau,los,AV.lo,qij,zfc]
theorem qv (n:Nat) (l:List (List OpI)):qb4 n (l.map qau)=true:=qjs (progC_lo n) l
structure Start where
 prog:Int
 time:Int
 deriving DecidableEq
def Start.r (x:Start):List AV:=[(ii x.prog),(ii x.time)]
theorem start_lo (n:Nat) (x:Start):los n x.r=true:=rfl
theorem qt0 (n:Nat) (l:List Start):qb4 n (l.map Start.r)=true:=qjs (start_lo n) l
def lpC (p:List Start):List AV:=[(.fsl ((p).map Start.r) false)]
theorem lpC_lo (n:Nat) (l:List Start):los n (lpC l)=true:=by simp only[lpC,los,AV.lo,qt0,zfc]
theorem qax (n:Nat) (l:List (List Start)):qb4 n (l.map lpC)=true:=qjs (lpC_lo n) l
structure Cfg where
 lps:List (List Start)
 progs:List (List OpI)
 look:Int
 fin:Int
 cap:Int
def qyk (n:Int):Bool:=decide (n≥1)&&decide (n≤1099511627776)
def q31 (n:Int):Bool:=decide (n ≥ -1073741824)&&decide (n≤1073741824)
theorem qre (n:Int):qm (evL T) qhp [(ii n)]=some (bb (qyk n)):=by
 rw[qm,qd qabb q8j]
 by_cases h1:n≥1<;>simp only[qyk,qsv,h1,wg,qk,zgy,↓qc,↓we,wc,wd]
theorem qvv (n:Int):qm (evL T) qiv [(ii n)]=some (bb (q31 n)):=by
 rw[qm,qd qab9 q8m]
 by_cases h1:n ≥ -1073741824<;>simp only[q31,qsy,h1,wg,qk,zgy,↓qc,↓we,wc,wt,wd]
def q3n (x:OpI) (n ps:Int):Bool:=
 if x.code=1 then qyk x.a&&(decide (x.b=0)&&decide (x.c=0))
 else if x.code=2 then decide (x.a≥0)&&(q31 x.b&&qyk x.c)
 else if x.code=3 then qyk x.a&&(decide (x.b≥0)&&(decide (x.b<n)&&decide (x.c=0)))
 else if x.code=5 then decide (x.a≥0)&&(decide (x.a<ps)&&(qyk x.b&&decide (x.c=0)))
 else if x.code=6 then decide (x.a≥0)&&(decide (x.a<2)&&(q31 x.b&&decide (x.c=0)))
 else if x.code=7 then decide (x.a≥0)&&(decide (x.a<2)&&(q31 x.b&&(decide (x.c≥0)&&decide (x.c<n))))
 else decide (x.a=0)&&(decide (x.b=0)&&decide (x.c=0))
theorem qwx (x:OpI) (n ps:Int):qm (evL T) qih [(.agg [(ii x.code),(ii x.a),(ii x.b),(ii x.c)]),(ii n),(ii ps)]=some (bb (q3n x n ps)):=by
 obtain⟨k,a,b,c⟩:=x
 rw[qm,qd q36 q2o]
 simp only[q3n]
 by_cases k1:k=1
 ·subst k1
  cases h1:qyk a<;>by_cases h2:b=0<;>simp only[qew,qre,h1,h2,wg,qb,wm,wn,qk,ne_eq,zgy,↓qc,↓we,wf,wc]
 by_cases k2:k=2
 ·subst k2
  by_cases h1:a≥0<;>cases h2:q31 b<;>simp only[qew,qre,qvv,h1,h2,wg,qb,wm,wn,qk,ne_eq,zgy,↓qc,↓we,wf,wc,Int.reduceEq]
 by_cases k3:k=3
 ·subst k3
  cases h1:qyk a<;>by_cases h2:b≥0<;>by_cases h3:b<n<;>simp only[qew,qre,h1,h2,h3,wg,qb,wm,wn,qk,ne_eq,zgy,↓qc,↓we,wf,wc,Int.reduceEq,wd]
 by_cases k5:k=5
 ·subst k5
  by_cases h1:a≥0<;>by_cases h2:a<ps<;>cases h3:qyk b<;>simp only[qew,qre,h1,h2,h3,wg,qb,wm,wn,qk,ne_eq,zgy,↓qc,↓we,wf,wc,Int.reduceEq,wd]
 by_cases k6:k=6
 ·subst k6
  by_cases h1:a≥0<;>by_cases h2:a<2<;>cases h3:q31 b<;>simp only[qew,qvv,h1,h2,h3,wg,qb,wm,wn,qk,ne_eq,zgy,↓qc,↓we,wf,wc,Int.reduceEq]
 by_cases k7:k=7
 ·subst k7
  by_cases h1:a≥0<;>by_cases h2:a<2<;>cases h3:q31 b<;>by_cases h4:c≥0<;>simp only[qew,qvv,h1,h2,h3,h4,wg,qb,wm,wn,qk,ne_eq,zgy,↓qc,↓we,wf,wc,Int.reduceEq,wd]
 by_cases h1:a=0<;>by_cases h2:b=0<;>simp only[qew,k1,k2,k3,k5,k6,k7,h1,h2,wg,qb,wm,wn,qk,ne_eq,zgy,↓qc,↓we,wf,wc]
def q87 (x:OpI):Bool:=decide (x.code≥1)&&decide (x.code≤8)
def qyj (p:List OpI):Bool:=decide (1≤p.length∧p.length≤16)&&p.all q87
def qair (lps:Int) (x:OpI):Bool:=!(decide (x.code=2)&&decide (x.a≥lps))
def qtp (look:Int) (x:OpI):Bool:=!(decide (x.code=2)&&decide (x.c<look))
def qsc (p:List OpI) (ps lps look:Int):Int:=
 if qyj p=false then 22 else if p.all (fun x=>q3n x p.length ps)=false then 22 else if p.all (qair lps)=false then 23 else if p.all (qtp look)=false then 21 else 0
section
variable (p:List OpI) (c:Bool) (ps lps look:Int)
theorem qafx (hl:p.length≤16) :
  ∃y,itB (exec (evL T) itL none qj0) (qu [0,3] true 0) ⟨[(0,(.fsl ((p).map OpI.r) c)),(3,(ii 0))],[]⟩ []=some y∧(p.all q87=true∧(y.1 = .exit 0∧y.2.1.marks=[]∧y.2.2=[]) ∨
   p.all q87=false ∧ ∃x,p.find? (fun x => !q87 x)=some x∧(y.1 = .ret∧y.2.1.marks=[]∧y.2.2=[]∧wh y.2.1.vars 2=some (bb false))):=by
 refine qgo p (fun i=>⟨[(0,(.fsl ((p).map OpI.r) c)),(3,(ii i))],[]⟩) [] q87 _ (fun _ y => _) ?_ ?_ ?_
 ·intro i x hi hx hp
  have hi':(i:Int)<(p.length:Int):=by omega
  have hw:IntKind.i64.wrap ((i:Int)+1)=((i+1:Nat):Int):=by rw[qi (by omega) (by omega)];simp
  simp only[q87,Bool.and_eq_true,decide_eq_true_eq]at hp
  have h1:¬x.code<1:=by omega
  have h2:¬x.code>8:=by omega
  simp only[qj0,zgs,zgr,zgq,zgt,OpI.r,hx,hi',hw,h1,h2,qij,wg,qb,zgy,↓qc,↓we,wf,wc,wd]
 ·intro i x hi hx hp
  have hi':(i:Int)<(p.length:Int):=by omega
  simp only[q87,Bool.and_eq_false_iff,decide_eq_false_iff_not]at hp
  by_cases h1:x.code<1
  ·simp only[qj0,zgs,zgr,zgq,zgt,OpI.r,hx,hi',h1,wg,qb,zgy,↓qc,↓we,wf,wc,wd]
   exact⟨_,rfl,rfl,rfl,rfl,rfl⟩
  ·have h2:x.code>8:=by omega
   simp only[qj0,zgs,zgr,zgq,zgt,OpI.r,hx,hi',h1,h2,wg,qb,zgy,↓qc,↓we,wf,wc,wd]
   exact⟨_,rfl,rfl,rfl,rfl,rfl⟩
 ·simp only[qj0,wu,wg,zgy,↓qc,↓we,wc,wd]
  exact⟨_,rfl,rfl,rfl,rfl⟩
theorem qac4:qm (evL T) ql8 [(.fsl ((p).map OpI.r) c)]=some (bb (qyj p)):=by
 rw[qm,qd qacj q9b]
 by_cases h1:(p.length:Int)<1
 ·have:¬(1≤p.length∧p.length≤16):=by omega
  simp only[qmh,qyj,this,h1,wg,qk,zgy,↓qc,↓we,wc,wd]
 by_cases h2:(p.length:Int)>16
 ·have:¬(1≤p.length∧p.length≤16):=by omega
  simp only[qmh,qyj,this,h1,h2,wg,qk,zgy,↓qc,↓we,wc,wd]
 have h3:1≤p.length∧p.length≤16:=by omega
 obtain⟨⟨y,e,σ⟩,k1,k2⟩:=qafx p c h3.2
 simp only at k2
 rcases k2 with ⟨k3,rfl,k4,rfl⟩|⟨k3,x,_,rfl,k4,rfl,k5⟩
 ·simp only[qmh,qyj,h3,h1,h2,k1,k3,k4,qij,wg,qk,zgy,↓qc,↓qq,↓we,wc,wd]
 ·simp only[qmh,qyj,h3,h1,h2,k1,k3,k4,k5,qij,wg,qk,zgy,↓qc,↓qq,↓we,wc,wd]
theorem qac7 (hl:p.length≤16) :
  ∃y,itB (exec (evL T) itL none qm1) (qu [0,1,2,3,9] true 0) ⟨[(0,(.fsl ((p).map OpI.r) c)),(1,(ii ps)),(2,(ii lps)),(3,(ii look)),(9,(ii 0))],[]⟩ []=some y ∧
   (p.all (fun x=>q3n x p.length ps)=true∧(y.1 = .exit 0∧y.2.1.marks=[]∧y.2.2=[]∧wh y.2.1.vars 0=some (.fsl ((p).map OpI.r) c)∧wh y.2.1.vars 2=some (ii lps)∧wh y.2.1.vars 3=some (ii look)) ∨
   p.all (fun x=>q3n x p.length ps)=false ∧ ∃x,p.find? (fun x => !q3n x p.length ps)=some x∧(y.1 = .ret∧y.2.1.marks=[]∧y.2.2=[]∧wh y.2.1.vars 8=some (ii 22))):=by
 refine qgo p (fun i=>⟨[(0,(.fsl ((p).map OpI.r) c)),(1,(ii ps)),(2,(ii lps)),(3,(ii look)),(9,(ii i))],[]⟩) [] (fun x=>q3n x p.length ps) _ (fun _ y => _) ?_ ?_ ?_
 ·intro i x hi hx hp
  have hi':(i:Int)<(p.length:Int):=by omega
  have hw:IntKind.i64.wrap ((i:Int)+1)=((i+1:Nat):Int):=by rw[qi (by omega) (by omega)];simp
  simp only[qm1,zgs,zgr,zgq,zgt,OpI.r,hx,hi',hw,qwx,hp,qij,wg,qb,zgy,↓qc,↓we,wf,wc,wd]
 ·intro i x hi hx hp
  have hi':(i:Int)<(p.length:Int):=by omega
  simp only[qm1,zgs,zgr,zgq,zgt,OpI.r,hx,hi',qwx,hp,wg,qb,zgy,↓qc,↓we,wf,wc,wd]
  exact⟨_,rfl,rfl,rfl,rfl,rfl⟩
 ·simp only[qm1,wu,wg,zgy,↓qc,↓we,wc,wd]
  exact⟨_,rfl,rfl,rfl,rfl,rfl,rfl,rfl⟩
theorem qadd (hl:p.length≤16) :
  ∃y,itB (exec (evL T) itL none qjz) (qu [0,2,3,10] true 0) ⟨[(0,(.fsl ((p).map OpI.r) c)),(2,(ii lps)),(3,(ii look)),(10,(ii 0))],[]⟩ []=some y ∧
   (p.all (qair lps)=true∧(y.1 = .exit 2∧y.2.1.marks=[]∧y.2.2=[]∧wh y.2.1.vars 0=some (.fsl ((p).map OpI.r) c)∧wh y.2.1.vars 3=some (ii look)) ∨
   p.all (qair lps)=false ∧ ∃x,p.find? (fun x => !qair lps x)=some x∧(y.1 = .ret∧y.2.1.marks=[]∧y.2.2=[]∧wh y.2.1.vars 8=some (ii 23))):=by
 refine qgo p (fun i=>⟨[(0,(.fsl ((p).map OpI.r) c)),(2,(ii lps)),(3,(ii look)),(10,(ii i))],[]⟩) [] (qair lps) _ (fun _ y => _) ?_ ?_ ?_
 ·intro i x hi hx hp
  have hi':(i:Int)<(p.length:Int):=by omega
  have hw:IntKind.i64.wrap ((i:Int)+1)=((i+1:Nat):Int):=by rw[qi (by omega) (by omega)];simp
  by_cases h1:x.code=2
  ·have h2:¬x.a≥lps:=by simpa[qair,h1]using hp
   simp only[qjz,zgs,zgr,zgq,zgt,OpI.r,hx,hi',hw,h1,h2,qij,wg,qb,zgy,↓qc,↓we,wf,wc,wd]
  ·simp only[qjz,zgs,zgr,zgq,zgt,OpI.r,hx,hi',hw,h1,qij,wg,qb,zgy,↓qc,↓we,wf,wc,wd]
 ·intro i x hi hx hp
  have hi':(i:Int)<(p.length:Int):=by omega
  have h1:x.code=2:=by
   by_cases h1:x.code=2
   ·exact h1
   ·simp[qair,h1]at hp
  have h2:x.a≥lps:=by simpa[qair,h1]using hp
  simp only[qjz,zgs,zgr,zgq,zgt,OpI.r,hx,hi',h1,h2,wg,qb,zgy,↓qc,↓we,wf,wc,wd]
  exact⟨_,rfl,rfl,rfl,rfl,rfl⟩
 ·simp only[qjz,wu,wg,zgy,↓qc,↓we,wc,wd]
  exact⟨_,rfl,rfl,rfl,rfl,rfl,rfl⟩
theorem qadl (hl:p.length≤16) :
  ∃y,itB (exec (evL T) itL none qj4) (qu [0,3,11] true 0) ⟨[(0,(.fsl ((p).map OpI.r) c)),(3,(ii look)),(11,(ii 0))],[]⟩ []=some y ∧
   (p.all (qtp look)=true∧(y.1 = .exit 4∧y.2.1.marks=[]∧y.2.2=[]) ∨
   p.all (qtp look)=false ∧ ∃x,p.find? (fun x => !qtp look x)=some x∧(y.1 = .ret∧y.2.1.marks=[]∧y.2.2=[]∧wh y.2.1.vars 8=some (ii 21))):=by
 refine qgo p (fun i=>⟨[(0,(.fsl ((p).map OpI.r) c)),(3,(ii look)),(11,(ii i))],[]⟩) [] (qtp look) _ (fun _ y => _) ?_ ?_ ?_
 ·intro i x hi hx hp
  have hi':(i:Int)<(p.length:Int):=by omega
  have hw:IntKind.i64.wrap ((i:Int)+1)=((i+1:Nat):Int):=by rw[qi (by omega) (by omega)];simp
  by_cases h1:x.code=2
  ·have h2:¬x.c<look:=by simpa[qtp,h1]using hp
   simp only[qj4,zgs,zgr,zgq,zgt,OpI.r,hx,hi',hw,h1,h2,qij,wg,qb,zgy,↓qc,↓we,wf,wc,wd]
  ·simp only[qj4,zgs,zgr,zgq,zgt,OpI.r,hx,hi',hw,h1,qij,wg,qb,zgy,↓qc,↓we,wf,wc,wd]
 ·intro i x hi hx hp
  have hi':(i:Int)<(p.length:Int):=by omega
  have h1:x.code=2:=by
   by_cases h1:x.code=2
   ·exact h1
   ·simp[qtp,h1]at hp
  have h2:x.c<look:=by simpa[qtp,h1]using hp
  simp only[qj4,zgs,zgr,zgq,zgt,OpI.r,hx,hi',h1,h2,wg,qb,zgy,↓qc,↓we,wf,wc,wd]
  exact⟨_,rfl,rfl,rfl,rfl,rfl⟩
 ·simp only[qj4,wu,wg,zgy,↓qc,↓we,wc,wd]
  exact⟨_,rfl,rfl,rfl,rfl⟩
theorem q2a:qm (evL T) ql4 [(.fsl ((p).map OpI.r) c),(ii ps),(ii lps),(ii look)]=some (ii (qsc p ps lps look)):=by
 have h0:=qac4 p c
 rw[qm,qd qabg q8l]
 cases hs:qyj p with
 |false=>
  rw[hs]at h0
  simp only[qkt,qsc,h0,hs,qij,wg,qk,zgy,↓qc,↓we,wf,wd]
 |true=>
  rw[hs]at h0
  have hl:p.length≤16:=by simp only[qyj,Bool.and_eq_true,decide_eq_true_eq]at hs;exact hs.1.2
  obtain⟨⟨y1,e1,σ1⟩,k1,k2⟩:=qac7 p c ps lps look hl
  obtain⟨⟨y2,e2,σ2⟩,m1,m2⟩:=qadd p c lps look hl
  obtain⟨⟨y3,e3,σ3⟩,n1,n2⟩:=qadl p c look hl
  simp only at k2 m2 n2
  rcases k2 with ⟨q1,rfl,q2,rfl,q3,q4,q5⟩|⟨q1,x,_,rfl,q2,rfl,q3⟩
  ·rcases m2 with ⟨r1,rfl,r2,rfl,r3,r4⟩|⟨r1,x,_,rfl,r2,rfl,r3⟩
   ·rcases n2 with ⟨t1,rfl,t2,rfl⟩|⟨t1,x,_,rfl,t2,rfl,t3⟩
    ·simp only[qkt,qsc,h0,hs,k1,q1,q2,q3,q4,q5,m1,r1,r2,r3,r4,n1,t1,t2,qij,wg,qk,zgy,↓qc,↓qq,↓we,wf,wc,wd]
    ·simp only[qkt,qsc,h0,hs,k1,q1,q2,q3,q4,q5,m1,r1,r2,r3,r4,n1,t1,t2,t3,qij,wg,qk,zgy,↓qc,↓qq,↓we,wf,wc,wd]
   ·simp only[qkt,qsc,h0,hs,k1,q1,q2,q3,q4,q5,m1,r1,r2,r3,qij,wg,qk,zgy,↓qc,↓qq,↓we,wf,wc,wd]
  ·simp only[qkt,qsc,h0,hs,k1,q1,q2,q3,qij,wg,qk,zgy,↓qc,↓qq,↓we,wf,wc,wd]
end
set_option maxRecDepth 10000
structure Pr where
 prog:Int
 pc:Int
 alive:Bool
 timer:List Int
 deriving DecidableEq
def Pr.r (x:Pr):List AV:=[(ii x.prog),(ii x.pc),(bb x.alive),(.fsl ((x.timer).map qy) false)]
theorem pr_lo (n:Nat) (x:Pr):los n x.r=true:=by simp only[Pr.r,qg,wg,zgy]
theorem pr_pl (x:Pr):x.r.length=4∧qfb x.r=true:=⟨rfl,rfl⟩
theorem qr (n:Nat) (l:List Pr):qb4 n (l.map Pr.r)=true:=qjs (pr_lo n) l
theorem qae6 (l:List Pr):qbs 4 (l.map Pr.r)=true:=qpn pr_pl l
structure Evt where
 time:Int
 key:List Int
 lp:Int
 kind:Int
 proc:Int
 arg:Int
 deriving DecidableEq
def Evt.r (x:Evt):List AV:=[(ii x.time),(.fsl ((x.key).map qy) false),(ii x.lp),(ii x.kind),(ii x.proc),(ii x.arg)]
theorem evt_lo (n:Nat) (x:Evt):los n x.r=true:=by simp only[Evt.r,qg,wg,zgy]
theorem evt_pl (x:Evt):x.r.length=6∧qfb x.r=true:=⟨rfl,rfl⟩
theorem qh (n:Nat) (l:List Evt):qb4 n (l.map Evt.r)=true:=qjs (evt_lo n) l
theorem qgi (l:List Evt):qbs 6 (l.map Evt.r)=true:=qpn evt_pl l
structure Lp where
 r0:Int
 r1:Int
 procs:List Pr
 sum:Int
 deriving DecidableEq
structure Ex where
 r0:Int
 r1:Int
 procs:List Pr
 sum:Int
 ev:Evt
 out:List Evt
 n:Int
 gone:List (List Int)
 over:Bool
def Ex.kid (x:Ex):List Int:=x.ev.key++[x.n]
def Ex.create (x : Ex) (d : Int) (e : Evt) : Ex :=
  { x with n := w64 (x.n + 1), out := if w64 (x.ev.time + d) > 1152921504606846976 then x.out else x.out ++ [⟨w64 (x.ev.time + d), x.kid, e.lp, e.kind, e.proc, e.arg⟩],
           over := if w64 (x.ev.time + d) > 1152921504606846976 then true else x.over }
structure Ex.Small (x:Ex):Prop where
 procs:x.procs.length≤1000
 out:x.out.length≤1000
 gone:x.gone.length≤1000
 key:x.ev.key.length≤100000
theorem qaft (l:List Int):qy4 (l.map qy) (l.map qy)=true:=q0n (fun x=>by simp only[qy,wg,zgy]) l
theorem eq_procs (l:List Pr):qy4 (l.map Pr.r) (l.map Pr.r)=true:=q0n (fun x=>by simp only[Pr.r,qaft,wg,zgy]) l
theorem eq_evts (l:List Evt):qy4 (l.map Evt.r) (l.map Evt.r)=true:=q0n (fun x=>by simp only[Evt.r,qaft,wg,zgy]) l
theorem eq_keys (l:List (List Int)):qy4 (l.map qh7) (l.map qh7)=true:=q0n (fun x=>by simp only[qh7,qaft,wg,zgy]) l
set_option maxRecDepth 10000
def qwh (a b:Int):Int:=if a<b then -1 else if a>b then 1 else 0
theorem qr3 (a b:Int):qm (evL T) qgs [(ii a),(ii b)]=some (ii (qwh a b)):=by
 rw[qm,qd q7h q4a]
 by_cases h1:a<b
 ·simp only[qli,qwh,h1,wg,qk,zgy,↓qc,↓we,wf,wc,wt,wd]
 by_cases h2:a>b
 ·simp only[qli,qwh,h1,h2,wg,qk,zgy,↓qc,↓we,wf,wc,wt,wd]
 ·simp only[qli,qwh,h1,h2,wg,qk,zgy,↓qc,↓we,wf,wc,wt,wd]
def qpg:List Int→List Int→Int
 |x::a,y::b=>if x=y then qpg a b else qwh x y
 | [],b=>if b.length=0 then 0 else -1
 | _ :: _,[]=>1
theorem q52 : ∀a b:List Int,((a.zip b).all (fun z=>decide (z.1=z.2))=true→qpg a b=qwh a.length b.length) ∧ ∀x,(a.zip b).find? (fun z => !decide (z.1=z.2))=some x→qpg a b=qwh x.1 x.2
 | [],b=>by
  refine⟨fun _ => ?_,fun x h=>by simp at h⟩
  cases b with
  |nil=>rfl
  |cons y b=>
   have:((0:Nat):Int)<((y::b).length:Int):=by simp only[zga];omega
   simp only[qpg,zga,Nat.succ_ne_zero,if_false,qwh,zgb]
   rw[if_pos (by omega)]
 |x::a,[]=>by
  refine⟨fun _ => ?_,fun x h=>by simp at h⟩
  simp only[qpg,qwh,zga,zgb]
  rw[if_neg (by omega),if_pos (by omega)]
 |x::a,y::b=>by
  obtain⟨h1,h2⟩:=q52 a b
  simp only[List.zip_cons_cons,List.all_cons,List.find?_cons,qpg,zga]
  by_cases h:x=y
  ·simp only[h,zgv,Bool.true_and,if_true,Bool.not_true]
   refine⟨fun k => ?_,h2⟩
   rw[h1 k];unfold qwh
   have e1:((a.length:Int)<b.length)↔(((a.length+1:Nat):Int)<((b.length+1:Nat):Int)):=by omega
   have e2:((a.length:Int)>b.length)↔(((a.length+1:Nat):Int)>((b.length+1:Nat):Int)):=by omega
   simp only[e1,e2]
  ·simp only[h,zgw,Bool.false_and,if_false,Bool.not_false]
   exact⟨fun k=>by simp at k,fun z k=>by simp at k;rw[←k]⟩
theorem qaa3 (a b:Int):qwh a b=0↔a=b:=by
 unfold qwh;split
 ·constructor<;>intro h<;>omega
 split
 ·constructor<;>intro h<;>omega
 ·constructor<;>intro h<;>omega
theorem q7r : ∀a b:List Int,qpg a b=0↔a=b
 | [],[]=>by simp[qpg]
 | [],y::b=>by simp[qpg]
 |x::a,[]=>by simp[qpg]
 |x::a,y::b=>by
  simp only[qpg,List.cons.injEq]
  split
  next h=>rw[q7r a b];simp[h]
  next h=>rw[qaa3];simp[h]
section
variable (a b:List Int) (c d:Bool)
theorem qagg (h1:a.length≤9223372036854775807) (h2:b.length≤9223372036854775807) :
  ∃y,itB (exec (evL T) itL none qe9) (qu [0,1,5] true 0) ⟨[(0,(.fsl ((a).map qy) c)),(1,(.fsl ((b).map qy) d)),(5,(ii 0))],[]⟩ []=some y ∧
   ((a.zip b).all (fun z=>decide (z.1=z.2))=true∧(y.1 = .exit 0∧y.2.1.marks=[]∧y.2.2=[]∧wh y.2.1.vars 0=some (.fsl ((a).map qy) c)∧wh y.2.1.vars 1=some (.fsl ((b).map qy) d)) ∨
   (a.zip b).all (fun z=>decide (z.1=z.2))=false ∧ ∃x,(a.zip b).find? (fun z => !decide (z.1=z.2))=some x∧(y.1 = .ret∧y.2.1.marks=[]∧y.2.2=[]∧wh y.2.1.vars 4=some (ii (qwh x.1 x.2)))):=by
 have hzl:(a.zip b).length=min a.length b.length:=List.length_zip
 refine qgo (a.zip b) (fun i=>⟨[(0,(.fsl ((a).map qy) c)),(1,(.fsl ((b).map qy) d)),(5,(ii i))],[]⟩) [] (fun z=>decide (z.1=z.2)) _ (fun x y => _) ?_ ?_ ?_
 ·intro i x hi hx hp
  rw[hzl]at hi
  have hi':(i:Int)<(a.length:Int):=by omega
  have hi2:(i:Int)<(b.length:Int):=by omega
  have hw:IntKind.i64.wrap ((i:Int)+1)=((i+1:Nat):Int):=by rw[qi (by omega) (by omega)];simp
  obtain⟨hxa,hxb⟩:=wp.1 hx
  have hp':=of_decide_eq_true hp
  simp only[qe9,zgs,zgr,zgq,zgt,hxa,hxb,hi',hi2,hw,hp',qg,qy,wg,qb,ne_eq,zgy,↓qc,↓we,wc,wd]
 ·intro i x hi hx hp
  rw[hzl]at hi
  have hi':(i:Int)<(a.length:Int):=by omega
  have hi2:(i:Int)<(b.length:Int):=by omega
  obtain⟨hxa,hxb⟩:=wp.1 hx
  have hp':¬x.1=x.2:=of_decide_eq_false hp
  have hc:=qr3 x.1 x.2
  simp only[qe9,zgs,zgr,zgq,zgt,hxa,hxb,hi',hi2,hp',hc,qy,wg,qb,ne_eq,zgy,↓qc,↓we,wc,wd]
  exact⟨_,rfl,rfl,rfl,rfl,rfl⟩
 ·rw[hzl]
  by_cases hab:a.length≤b.length
  ·rw[Nat.min_eq_left hab]
   simp only[qe9,wu,wg,zgy,↓qc,↓we,wc,wd]
   exact⟨_,rfl,rfl,rfl,rfl,rfl,rfl⟩
  ·rw[Nat.min_eq_right (by omega)]
   have h3:(b.length:Int)<(a.length:Int):=by omega
   simp only[qe9,wu,h3,wg,zgy,↓qc,↓we,wc,wd]
   exact⟨_,rfl,rfl,rfl,rfl,rfl,rfl⟩
theorem q2f (h1:a.length≤9223372036854775807) (h2:b.length≤9223372036854775807):qm (evL T) qev [(.fsl ((a).map qy) c),(.fsl ((b).map qy) d)]=some (ii (qpg a b)):=by
 obtain⟨⟨y,e,σ⟩,k1,k2⟩:=qagg a b c d h1 h2
 simp only at k2
 obtain⟨z1,z2⟩:=q52 a b
 rw[qm,qd q0j qy2]
 rcases k2 with ⟨k3,rfl,k4,rfl,k5,k6⟩|⟨k3,x,k7,rfl,k4,rfl,k5⟩
 ·have hc:=qr3 a.length b.length
  rw[z1 k3]
  simp only[qjk,k1,k4,k5,k6,hc,qg,wg,qk,zgy,↓qc,↓qq,↓we,wf,wc,wd]
 ·rw[z2 x k7]
  simp only[qjk,k1,k4,k5,qg,wg,qk,zgy,↓qc,↓qq,↓we,wf,wc,wd]
theorem qxh (h1:a.length≤9223372036854775807) (h2:b.length≤9223372036854775807):qm (evL T) qfg [(.fsl ((a).map qy) c),(.fsl ((b).map qy) d)]=some (bb (decide (a=b))):=by
 have hk:=q2f a b c d h1 h2
 have hz:=q7r a b
 rw[qm,qd q6n q4l]
 by_cases h:a=b
 ·have h3:=hz.2 h
  rw[h3]at hk
  simp only[h,zgv]
  simp only[h]at hk
  simp only[qno,hk,qg,wg,qk,zgy,↓qc,↓we,wf,wc,wd]
 ·have h3:¬qpg a b=0:=fun k=>h (hz.1 k)
  simp only[h,zgw]
  simp only[qno,hk,h3,qg,wg,qk,zgy,↓qc,↓we,wf,wc,wd]
end
theorem q73 (x y:Evt) (hx:x.key.length≤9223372036854775807) (hy:y.key.length≤9223372036854775807):qm (evL T) qhi [(.agg [(ii x.time),(.fsl ((x.key).map qy) false),(ii x.lp),(ii x.kind),(ii x.proc),(ii x.arg)]),(.agg [(ii y.time),(.fsl ((y.key).map qy) false),(ii y.lp),(ii y.kind),(ii y.proc),(ii y.arg)])]=some (bb (decide (x=y))):=by
 obtain⟨xt,xk,xl,xi,xp,xa⟩:=x
 obtain⟨yt,yk,yl,yi,yp,ya⟩:=y
 have hk:=qxh xk yk false false hx hy
 simp only[Evt.mk.injEq]
 rw[qm,qd q2i q1e]
 by_cases h1:xt=yt
 case neg=>simp only[qd6,h1,false_and,zgw,wg,qb,wm,wn,qk,ne_eq,zgy,↓qc,↓we,wf,wc,wd]
 by_cases h2:xk=yk
 case neg=>
  simp only[h2,zgw]at hk
  simp only[qd6,h1,h2,hk,qg,false_and,and_false,zgw,wg,qb,wm,wn,qk,ne_eq,zgy,↓qc,↓we,wf,wc,wd]
 simp only[h2,zgv]at hk
 by_cases h3:xl=yl
 case neg=>simp only[qd6,h1,h2,h3,hk,qg,false_and,and_false,zgw,wg,qb,wm,wn,qk,ne_eq,zgy,↓qc,↓we,wf,wc,wd]
 by_cases h4:xi=yi
 case neg=>simp only[qd6,h1,h2,h3,h4,hk,qg,false_and,and_false,zgw,wg,qb,wm,wn,qk,ne_eq,zgy,↓qc,↓we,wf,wc,wd]
 by_cases h5:xp=yp
 case neg=>simp only[qd6,h1,h2,h3,h4,h5,hk,qg,false_and,and_false,zgw,wg,qb,wm,wn,qk,ne_eq,zgy,↓qc,↓we,wf,wc,wd]
 by_cases h6:xa=ya
 case neg=>simp only[qd6,h1,h2,h3,h4,h5,h6,hk,qg,and_false,zgw,wg,qb,wm,wn,qk,ne_eq,zgy,↓qc,↓we,wf,wc,wd]
 simp only[qd6,h1,h2,h3,h4,h5,h6,hk,qg,zgx,zgv,wg,qb,wm,wn,qk,ne_eq,zgy,↓qc,↓we,wf,wc,wd]
theorem qtb {α:Type} [DecidableEq α] : ∀ {a b:List α},a.length=b.length→((a.zip b).all (fun z=>decide (z.1=z.2))=true↔a=b)
 | [],[],_=>by simp
 |x::a,y::b,h=>by
  rw[List.zip_cons_cons,List.all_cons,Bool.and_eq_true,decide_eq_true_eq,qtb (a:=a) (b:=b) (by simpa using h),List.cons.injEq]
 | [],_ :: _,h=>by simp at h
 | _ :: _,[],h=>by simp at h
section
variable (a b:List Evt) (c d:Bool)
theorem qagm (h1:a.length≤9223372036854775807) (h2:b.length≤9223372036854775807) (ha : ∀x∈a,x.key.length≤9223372036854775807) (hb : ∀x∈b,x.key.length≤9223372036854775807) :
  qm (evL T) qgw [(.fsl ((a).map Evt.r) c),(.fsl ((b).map Evt.r) d)]=some (bb (decide (a=b))):=by
 rw[qm,qd q1p q0p]
 by_cases hab:a.length=b.length
 case neg=>
  have hab':¬(a.length:Int)=(b.length:Int):=by omega
  have:¬a=b:=fun h=>hab (by rw[h])
  simp only[qic,hab',this,wg,qk,ne_eq,zgy,↓qc,↓we,wf,wc,wd]
 have hab':(a.length:Int)=(b.length:Int):=by omega
 have hzl:(a.zip b).length=a.length:=by rw[List.length_zip,←hab,Nat.min_self]
 have hL : ∃y,itB (exec (evL T) itL none qh0) (qu [0,1,5] true 0) ⟨[(0,(.fsl ((a).map Evt.r) c)),(1,(.fsl ((b).map Evt.r) d)),(5,(ii 0))],[]⟩ []=some y∧((a.zip b).all (fun z=>decide (z.1=z.2))=true∧(y.1 = .exit 0∧y.2.1.marks=[]∧y.2.2=[]) ∨
   (a.zip b).all (fun z=>decide (z.1=z.2))=false ∧ ∃x,(a.zip b).find? (fun z => !decide (z.1=z.2))=some x∧(y.1 = .ret∧y.2.1.marks=[]∧y.2.2=[]∧wh y.2.1.vars 4=some (bb false))):=by
  refine qgo (a.zip b) (fun i=>⟨[(0,(.fsl ((a).map Evt.r) c)),(1,(.fsl ((b).map Evt.r) d)),(5,(ii i))],[]⟩) [] (fun z=>decide (z.1=z.2)) _ (fun _ y => _) ?_ ?_ ?_
  ·intro i x hi hx hp
   rw[hzl]at hi
   have hi':(i:Int)<(a.length:Int):=by omega
   have hw:IntKind.i64.wrap ((i:Int)+1)=((i+1:Nat):Int):=by rw[qi (by omega) (by omega)];simp
   obtain⟨hxa,hxb⟩:=wp.1 hx
   have hv:=q73 x.1 x.2 (ha _ (zmg hxa)) (hb _ (zmg hxb))
   rw[hp]at hv
   simp only[qh0,zgs,zgr,zgq,zgt,hxa,hxb,hi',hw,hv,qh,qg,Evt.r,wg,qb,zgy,↓qc,↓we,wf,wc,wd]
  ·intro i x hi hx hp
   rw[hzl]at hi
   have hi':(i:Int)<(a.length:Int):=by omega
   obtain⟨hxa,hxb⟩:=wp.1 hx
   have hv:=q73 x.1 x.2 (ha _ (zmg hxa)) (hb _ (zmg hxb))
   rw[hp]at hv
   simp only[qh0,zgs,zgr,zgq,zgt,hxa,hxb,hi',hv,qg,Evt.r,wg,qb,zgy,↓qc,↓we,wf,wc,wd]
   exact⟨_,rfl,rfl,rfl,rfl,rfl⟩
  ·rw[hzl]
   simp only[qh0,wu,wg,zgy,↓qc,↓we,wc,wd]
   exact⟨_,rfl,rfl,rfl,rfl⟩
 obtain⟨⟨y,e,σ⟩,k1,k2⟩:=hL
 simp only at k2
 rcases k2 with ⟨k3,rfl,k4,rfl⟩|⟨k3,x,_,rfl,k4,rfl,k5⟩
 ·have:a=b:=(qtb hab).1 k3
  subst this
  simp only[qic,k1,k4,qh,wg,qk,ne_eq,zgy,↓qc,↓qq,↓we,wf,wc,wd]
 ·have:¬a=b:=fun h=>by rw[(qtb hab).2 h]at k3;cases k3
  simp only[this]
  simp only[qic,hab',k1,k4,k5,qh,wg,qk,ne_eq,zgy,↓qc,↓qq,↓we,wf,wc,wd]
end
set_option maxRecDepth 10000
theorem qag2 (a:Int):qm (evL T) qhv [(ii a)]=some (bb false):=by
 rw[qm,qd q6h q4e]
 simp only[qp6,wg,qk,ne_eq,zgy,↓qc,↓we,wc,wd]
theorem qoo (a b:Int):qm (evL T) qgh [(ii a),(ii b)]=some (ii (qwh a b)):=by
 have h0:=qag2
 rw[qm,qd q3x q1i]
 by_cases h1:a<b
 ·simp only[qi9,qwh,h0,h1,wg,qk,zgy,↓qc,↓we,wf,wc,wt,wd]
 by_cases h2:a>b
 ·simp only[qi9,qwh,h0,h1,h2,wg,qk,zgy,↓qc,↓we,wf,wc,wt,wd]
 ·simp only[qi9,qwh,h0,h1,h2,wg,qk,zgy,↓qc,↓we,wf,wc,wt,wd]
theorem qaop (x z:Int) (c:Bool):qm (evL T) qnn [(.fsl (([x,z]).map qy) c)]=some (ii (if x=0 then z else x)):=by
 have hL : ∃y,itB (exec (evL T) itL none qnk) (qu [3,6,7,8] true 0) ⟨[(3,(ii 0)),(6,(.fsl (([x,z]).map qy) c)),(7,(ii 2)),(8,(ii 0))],[]⟩ []=some y∧([x,z].all (fun v=>decide (v=0))=true∧(y.1 = .exit 0∧y.2.1.marks=[]∧y.2.2=[]∧wh y.2.1.vars 3=some (ii 0)) ∨
   [x,z].all (fun v=>decide (v=0))=false ∧ ∃v,[x,z].find? (fun v => !decide (v=0))=some v∧(y.1 = .ret∧y.2.1.marks=[]∧y.2.2=[]∧wh y.2.1.vars 2=some (ii v))):=by
  refine qgo [x,z] (fun i=>⟨[(3,(ii 0)),(6,(.fsl (([x,z]).map qy) c)),(7,(ii 2)),(8,(ii i))],[]⟩) [] (fun v=>decide (v=0)) _ (fun v y => _) ?_ ?_ ?_
  ·intro i v hi hv hp
   have hi2:(i:Int)<2:=by simp at hi;omega
   have hw:IntKind.i64.wrap ((i:Int)+1)=((i+1:Nat):Int):=by rw[qi (by omega) (by omega)];simp
   have hp':=of_decide_eq_true hp
   subst hp'
   have hl:=qg 0 [x,z]
   generalize [x,z]=l at hv hl⊢
   simp only[qnk,zgs,zgr,zgq,zgt,hv,hl,hi2,hw,qy,wg,qb,ne_eq,zgy,↓qc,↓we,wc]
  ·intro i v hi hv hp
   have hi2:(i:Int)<2:=by simp at hi;omega
   have hp':¬v=0:=of_decide_eq_false hp
   have hl:=qg 0 [x,z]
   generalize [x,z]=l at hv hl⊢
   simp only[qnk,zgs,zgr,zgq,zgt,hv,hi2,hp',qy,wg,qb,ne_eq,zgy,↓qc,↓we,wc]
   exact⟨_,rfl,rfl,rfl,rfl,rfl⟩
  ·have hl:=qg 0 [x,z]
   rw[show ([x,z]:List Int).length=2 from rfl]
   simp only[qnk,wu,wE,wg,zgy,↓qc,↓we,wc]
   exact⟨_,rfl,rfl,rfl,rfl,rfl⟩
 obtain⟨⟨y,e,σ⟩,k1,k2⟩:=hL
 simp only at k2
 have hl:=qg 0 [x,z]
 have hn:([x,z].map qy).length=2:=rfl
 rw[qm,qd qac9 qaat]
 rcases k2 with ⟨k3,rfl,k4,rfl,k5⟩|⟨k3,v,k6,rfl,k4,rfl,k5⟩
 ·have h1:x=0∧z=0:=by simpa using k3
  have h2:(if x=0 then z else x)=0:=by rw[if_pos h1.1,h1.2]
  rw[h2]
  generalize [x,z].map qy=l at k1 hl hn⊢
  simp only[qrx,hn,wE,k1,k4,k5,hl,wg,qk,zgy,↓qc,↓qq,↓we,wc,wd]
 ·have h1:(if x=0 then z else x)=v:=by
   rw[List.find?_cons]at k6
   by_cases hx:x=0
   ·rw[if_pos hx];simp[hx]at k6;exact k6.2
   ·rw[if_neg hx];simp[hx]at k6;exact k6
  rw[h1]
  generalize [x,z].map qy=l at k1 hl hn⊢
  simp only[qrx,hn,wE,k1,k4,k5,hl,wg,qk,zgy,↓qc,↓qq,↓we,wc,wd]
theorem qvx (x z:Int) (c:Bool):qm (evL T) ql0 [(.fsl (([x,z]).map qy) c)]=some (ii (if x=0 then z else x)):=by
 have h:=qaop x z c
 have hl:=qg 0 [x,z]
 generalize [x,z].map qy=l at h hl⊢
 rw[qm,qd qabo q83]
 simp only[qsf,h,hl,wg,qk,zgy,↓qc,↓we,wd]
section
variable (a b:List Int) (c d:Bool)
theorem q9t (h1:a.length≤9223372036854775807) (h2:b.length≤9223372036854775807) :
  ∃y,itB (exec (evL T) itL none qda) (qu [0,1,9,10,11] true 0) ⟨[(0,(.fsl ((a).map qy) c)),(1,(.fsl ((b).map qy) d)),(9,(.fsl ((a).map qy) c)),(10,(ii a.length)),(11,(ii 0))],[]⟩ []=some y ∧
   ((a.zip b).all (fun z=>decide (z.1=z.2))=true∧(a.length≤b.length∧y.1 = .exit 0∧y.2.1.marks=[]∧y.2.2=[]∧wh y.2.1.vars 0=some (.fsl ((a).map qy) c)∧wh y.2.1.vars 1=some (.fsl ((b).map qy) d)∨b.length<a.length∧y.1 = .ret∧y.2.1.marks=[]∧y.2.2=[]∧wh y.2.1.vars 4=some (ii 1)) ∨
   (a.zip b).all (fun z=>decide (z.1=z.2))=false ∧ ∃x,(a.zip b).find? (fun z => !decide (z.1=z.2))=some x∧(y.1 = .ret∧y.2.1.marks=[]∧y.2.2=[]∧wh y.2.1.vars 4=some (ii (qwh x.1 x.2)))):=by
 have hzl:(a.zip b).length=min a.length b.length:=List.length_zip
 refine qgo (a.zip b) (fun i=>⟨[(0,(.fsl ((a).map qy) c)),(1,(.fsl ((b).map qy) d)),(9,(.fsl ((a).map qy) c)),(10,(ii a.length)),(11,(ii i))],[]⟩) [] (fun z=>decide (z.1=z.2)) _ (fun x y => _) ?_ ?_ ?_
 ·intro i x hi hx hp
  rw[hzl]at hi
  have hi':(i:Int)<(a.length:Int):=by omega
  have hi2:¬(i:Int)≥(b.length:Int):=by omega
  have hw:IntKind.i64.wrap ((i:Int)+1)=((i+1:Nat):Int):=by rw[qi (by omega) (by omega)];simp
  obtain⟨hxa,hxb⟩:=wp.1 hx
  have hp':=of_decide_eq_true hp
  have hc:=qoo x.1 x.2
  rw[(qaa3 x.1 x.2).2 hp']at hc
  simp only[qda,zgs,zgr,zgq,zgt,hxa,hxb,hi',hi2,hw,hc,qg,qy,wg,qb,ne_eq,zgy,↓qc,↓we,wc,wd]
 ·intro i x hi hx hp
  rw[hzl]at hi
  have hi':(i:Int)<(a.length:Int):=by omega
  have hi2:¬(i:Int)≥(b.length:Int):=by omega
  obtain⟨hxa,hxb⟩:=wp.1 hx
  have hp':¬x.1=x.2:=of_decide_eq_false hp
  have hc:=qoo x.1 x.2
  have hz:¬qwh x.1 x.2=0:=fun h=>hp' ((qaa3 _ _).1 h)
  simp only[qda,zgs,zgr,zgq,zgt,hxa,hxb,hi',hi2,hz,hc,qy,wg,qb,ne_eq,zgy,↓qc,↓we,wc,wd]
  exact⟨_,rfl,rfl,rfl,rfl,rfl⟩
 ·rw[hzl]
  by_cases hab:a.length≤b.length
  ·rw[Nat.min_eq_left hab]
   simp only[qda,wu,wg,zgy,↓qc,↓we,wc,wd]
   exact⟨_,rfl,.inl ⟨hab,rfl,rfl,rfl,rfl,rfl⟩⟩
  ·rw[Nat.min_eq_right (by omega)]
   have h3:(b.length:Int)<(a.length:Int):=by omega
   obtain⟨x,hx⟩ : ∃x,a[b.length]? = some x:=⟨_,zgE (by omega)⟩
   have h4:(b.length:Int)≥(b.length:Int):=Int.le_refl _
   simp only[qda,zgs,zgr,zgq,zgt,h3,h4,hx,qy,wg,qb,zgy,↓qc,↓we,wc,wd]
   exact⟨_,rfl,.inr ⟨by omega,rfl,rfl,rfl,rfl⟩⟩
theorem q59 (h1:a.length≤9223372036854775807) (h2:b.length≤9223372036854775807):qm (evL T) qc3 [(.fsl ((a).map qy) c),(.fsl ((b).map qy) d)]=some (ii (qpg a b)):=by
 obtain⟨⟨y,e,σ⟩,k1,k2⟩:=q9t a b c d h1 h2
 simp only at k2
 obtain⟨z1,z2⟩:=q52 a b
 rw[qm,qd qtx qs3]
 rcases k2 with ⟨k3,⟨k7,rfl,k4,rfl,k5,k6⟩|⟨k7,rfl,k4,rfl,k5⟩⟩|⟨k3,x,k7,rfl,k4,rfl,k5⟩
 ·rw[z1 k3]
  by_cases hl:(a.length:Int)<(b.length:Int)
  ·simp only[qc5,k1,k4,k5,k6,hl,qwh,qg,wg,qk,zgy,↓qc,↓qq,↓we,wf,wc,wt,wd]
  ·have hg:¬(a.length:Int)>(b.length:Int):=by omega
   simp only[qc5,k1,k4,k5,k6,hl,hg,qwh,qg,wg,qk,zgy,↓qc,↓qq,↓we,wf,wc,wt,wd]
 ·have hl:¬(a.length:Int)<(b.length:Int):=by omega
  have hg:(a.length:Int)>(b.length:Int):=by omega
  rw[z1 k3]
  simp only[qc5,k1,k4,k5,hl,hg,qwh,qg,wg,qk,zgy,↓qc,↓qq,↓we,wf,wc,wt,wd]
 ·rw[z2 x k7]
  simp only[qc5,k1,k4,k5,qg,wg,qk,zgy,↓qc,↓qq,↓we,wf,wc,wt,wd]
theorem qoh (h1:a.length≤9223372036854775807) (h2:b.length≤9223372036854775807):qm (evL T) qfx [(.fsl ((a).map qy) c),(.fsl ((b).map qy) d)]=some (ii (qpg a b)):=by
 have h:=q59 a b c d h1 h2
 rw[qm,qd q0e qyx]
 simp only[ql1,h,qg,wg,qk,zgy,↓qc,↓we,wf,wc,wd]
end
def qxm (x y:Evt):Int:=if qwh x.time y.time=0 then qpg x.key y.key else qwh x.time y.time
theorem qob (x y:Evt) (hx:x.key.length≤9223372036854775807) (hy:y.key.length≤9223372036854775807) (rs:Nat) (es:List (List AV)) (g:Nat) :
  (evL T).call qe [(.agg [(ii x.time),(.fsl ((x.key).map qy) false),(ii x.lp),(ii x.kind),(ii x.proc),(ii x.arg)]),(.agg [(ii y.time),(.fsl ((y.key).map qy) false),(ii y.lp),(ii y.kind),(ii y.proc),(ii y.arg)])] [.row rs es g]=some ((ii (qxm x y)),[.row rs es g]):=by
 obtain⟨xt,xk,xl,xi,xp,xa⟩:=x
 obtain⟨yt,yk,yl,yi,yp,ya⟩:=y
 have hc:=qoo xt yt
 have hk:=qoh xk yk false false hx hy
 have hf:=qvx (qwh xt yt) (qpg xk yk) true
 simp only[wD,List.map_nil,qy]at hf
 rw[qd ql2 qln]
 simp only[qga,show ∀v:List AV,List.replicate 2 v=[v,v] from fun _=>rfl,hc,hk,hf,qxm,ite_self,qg,wg,qb,wm,Ev.AV.uc,wn,qk,wo,ne_eq,zgy,↓qc,↓we,wf,wc,Nat.reduceMul,wF,Nat.reduceLeDiff,Nat.reducePow,wd]
theorem qyv (x y:Evt) (hx:x.key.length≤9223372036854775807) (hy:y.key.length≤9223372036854775807) :
  qm (evL T) qe [(.agg [(ii x.time),(.fsl ((x.key).map qy) false),(ii x.lp),(ii x.kind),(ii x.proc),(ii x.arg)]),(.agg [(ii y.time),(.fsl ((y.key).map qy) false),(ii y.lp),(ii y.kind),(ii y.proc),(ii y.arg)])]=some (ii (qxm x y)):=by
 obtain⟨xt,xk,xl,xi,xp,xa⟩:=x
 obtain⟨yt,yk,yl,yi,yp,ya⟩:=y
 have hc:=qoo xt yt
 have hk:=qoh xk yk false false hx hy
 have hf:=qvx (qwh xt yt) (qpg xk yk) true
 simp only[wD,List.map_nil,qy]at hf
 rw[qm,qd ql2 qln]
 simp only[qga,show ∀v:List AV,List.replicate 2 v=[v,v] from fun _=>rfl,hc,hk,hf,qxm,qg,wg,qb,wm,Ev.AV.uc,wn,qk,ne_eq,zgy,↓qc,↓we,wf,wc,Nat.reduceMul,wF,Nat.reduceLeDiff,Nat.reducePow,wd]
end Go.Proofs.YtpgdfkciinankaaGreat.K
namespace Go.Ev
section
variable {α:Type}
theorem qwd {D L M:List α} {x:α} {n:Nat} (h:D=L++x::M) (hn:n=L.length):D[n]? = some x:=by
 subst h hn;simp
theorem q70 {D L X M:List α} {i n:Nat} (h:D=L++(X++M)) (hi:i<X.length) (hn:n=L.length+i):D[n]? = X[i]?:=by
 subst h hn
 rw[List.getElem?_append_right (by omega),List.getElem?_append_left (by omega)]
 congr 1;omega
theorem qaic {D L M:List α} {x y:α} {n m:Nat} (h:D=L++y::x::M) (hn:n=L.length) (hm:m=n+1):(D.set m y).set n x=L++x::y::M:=by
 subst h hm hn;simp[]
theorem qal2 {D L M:List α} {x y:α} {n m:Nat} (h:D=L++y::x::M) (hn:n=L.length) (hm:m=n+1):(D.set n x).set m y=L++x::y::M:=by
 subst h hm hn;simp[]
theorem swap_far {D L M N:List α} {x y:α} {n m:Nat} (h:D=L++x::(M++y::N)) (hn:n=L.length) (hm:m=n+1+M.length):(D.set n y).set m x=L++y::(M++x::N):=by
 subst h hm hn
 rw[List.set_append,if_neg (Nat.lt_irrefl _),Nat.sub_self,List.set_cons_zero,List.set_append,if_neg (by omega),show L.length+1+M.length-L.length=M.length+1 by omega,List.set_cons_succ,List.set_append,if_neg (Nat.lt_irrefl _),Nat.sub_self,List.set_cons_zero]
variable {R:α→α→Prop}
theorem cross (tr : ∀a b c,R a b→R b c→R a c) {X Y:List α} (hX:X.Pairwise R) (hY:Y.Pairwise R) (h : ∀u v,X[X.length-1]? = some u→Y[0]? = some v→R u v) : ∀a∈X,∀b∈Y,R a b:=by
 intro a ha b hb
 obtain⟨i,hi⟩:=wA.1 ha
 obtain⟨j,hj⟩:=wA.1 hb
 obtain⟨hi',hi⟩:=List.getElem?_eq_some_iff.1 hi
 obtain⟨hj',hj⟩:=List.getElem?_eq_some_iff.1 hj
 rw[List.pairwise_iff_getElem]at hX hY
 have h0:=h _ _ (List.getElem?_eq_getElem (by omega)) (List.getElem?_eq_getElem (by omega))
 have h1:R a Y[0]:=by
  by_cases c:i=X.length-1
  ·subst c;rw[←hi];exact h0
  ·exact tr _ _ _ (by rw[←hi];exact hX i (X.length-1) hi' (by omega) (by omega)) h0
 by_cases c:j=0
 ·subst c;rw[←hj];exact h1
 ·exact tr _ _ _ h1 (by rw[←hj];exact hY 0 j (by omega) hj' (by omega))
theorem qajx (tr : ∀a b c,R a b→R b c→R a c) {X1 X2 Y1 Y2 Z1 Z2:List α} (hX:(X1++X2).Pairwise R) (hY:(Y1++Y2).Pairwise R)
  (h1 : ∀u v,X1[X1.length-1]? = some u→Y2[0]? = some v→R u v) (h2 : ∀u v,Y1[Y1.length-1]? = some u→X2[0]? = some v→R u v)
  (p1:Z1.Perm (X1++Y1)) (p2:Z2.Perm (X2++Y2)) (s1:Z1.Pairwise R) (s2:Z2.Pairwise R):(Z1++Z2).Perm (X1++X2++(Y1++Y2))∧(Z1++Z2).Pairwise R:=by
 obtain⟨x1,x2,x3⟩:=wr.1 hX
 obtain⟨y1,y2,y3⟩:=wr.1 hY
 have c1:=cross tr x1 y2 h1
 have c2:=cross tr y1 x2 h2
 refine⟨(p1.append p2).trans ?_,wr.2 ⟨s1,s2,?_⟩⟩
 ·rw[wl,wl]
  refine wv X1 ?_
  rw[←wl,←wl]
  exact List.Perm.append_right Y2 List.perm_append_comm
 ·intro a ha b hb
  rw[p1.mem_iff,wz]at ha
  rw[p2.mem_iff,wz]at hb
  rcases ha with ha|ha<;>rcases hb with hb|hb
  ·exact x3 a ha b hb
  ·exact c1 a ha b hb
  ·exact c2 a ha b hb
  ·exact y3 a ha b hb
theorem qrt (tr : ∀a b c,R a b→R b c→R a c) {A B:List α} {x:α} (h:(A++B).Pairwise R) (h1 : ∀u,A[A.length-1]? = some u→R u x) (h2 : ∀v,B[0]? = some v→R x v):(A++x::B).Pairwise R:=by
 obtain⟨a1,a2,a3⟩:=wr.1 h
 have c1:=cross tr a1 (List.pairwise_singleton R x) (fun u v hu hv=>by simp at hv;subst hv;exact h1 u hu)
 have c2:=cross tr (List.pairwise_singleton R x) a2 (fun u v hu hv=>by simp at hu;subst hu;exact h2 v hv)
 refine wr.2 ⟨a1,List.pairwise_cons.2 ⟨fun b hb=>c2 x (by simp) b hb,a2⟩,fun a ha b hb => ?_⟩
 rcases wC.1 hb with rfl|hb
 ·exact c1 a ha _ (by simp)
 ·exact a3 a ha b hb
inductive Blk (R:α→α→Prop) (s:Nat):List α→Prop
 |last {l:List α}:l.length≤s→l.Pairwise R→Blk R s l
 |more {X Y:List α}:X.length=s→X.Pairwise R→Blk R s Y→Blk R s (X++Y)
theorem Blk.sorted {s:Nat} {l:List α} (h:Blk R s l) (hs:l.length≤s):l.Pairwise R:=by
 cases h with
 |last _ h=>exact h
 | @more X Y h1 h2 h3=>
  rw[wk]at hs
  obtain rfl:=wj (l:=Y) (by omega)
  simpa using h2
theorem Blk.split {s:Nat} {l:List α} (h:Blk R s l) (hs:s<l.length) : ∃X Y,l=X++Y∧X.length=s∧X.Pairwise R∧Blk R s Y:=by
 cases h with
 |last h1 _=>omega
 | @more X Y h1 h2 h3=>exact⟨X,Y,rfl,h1,h2,h3⟩
theorem Blk.nil {s:Nat}:Blk R s ([]:List α):=.last (Nat.zero_le _) .nil
theorem qjo {f:Env→qj→R3} {s:Env→qj→Option (Env×qj)} {τ:Type} (E:τ→Env) (S:τ→qj) (m:τ→Nat) (Inv:τ→Prop) (Q:CExit×Env×qj→Prop)
  (step : ∀a,Inv a→(∃a',it1 f s (E a) (S a)=some (.inl (E a',S a'))∧Inv a'∧m a'<m a) ∨ ∃y,it1 f s (E a) (S a)=some (.inr y)∧Q y) :
  ∀a,Inv a → ∃y,itB f s (E a) (S a)=some y∧Q y:=by
 have : ∀k a,m a≤k→Inv a → ∃y,itB f s (E a) (S a)=some y∧Q y:=by
  intro k
  induction k with
  |zero=>
   intro a hk ha
   rcases step a ha with ⟨a',h1,h2,h3⟩|⟨y,h1,h2⟩
   ·omega
   ·exact⟨y,qn8 h1,h2⟩
  |succ k ih=>
   intro a hk ha
   rcases step a ha with ⟨a',h1,h2,h3⟩|⟨y,h1,h2⟩
   ·obtain⟨y,h4,h5⟩:=ih a' (by omega) h2
    exact⟨y,qm7 h1 h4,h5⟩
   ·exact⟨y,qn8 h1,h2⟩
 exact fun a=>this (m a) a (ww _)
end
end Go.Ev
namespace Go.Proofs.YtpgdfkciinankaaGreat.K
open Go.Ev
set_option maxRecDepth 10000
theorem qph {a b:Nat} (h:a+b<2^62):IntKind.i64.wrap ((a:Int)+(b:Int))=((a+b:Nat):Int):=by rw[qi (by omega) (by omega)];simp
theorem qqh {a:Nat} (h:a<2^62):IntKind.i64.wrap ((a:Int)+1)=((a+1:Nat):Int):=by rw[qi (by omega) (by omega)];simp
theorem qp1 {a b c:Nat} (h:a=b+c) (h2:a<2^62):IntKind.i64.wrap ((a:Int)-(b:Int))=(c:Int):=by rw[qi (by omega) (by omega)];omega
theorem q09 {a c:Nat} (h:a=c+1) (h2:a<2^62):IntKind.i64.wrap ((a:Int)-1)=(c:Int):=by rw[qi (by omega) (by omega)];omega
section
variable (g:Nat) (cl:Bool) (n:Nat)
theorem qzo (L X M Y N:List Evt) (hXY:Y.length=X.length) (hn:n=(L++(X++(M++(Y++N)))).length) (hb:n<2^61) (a b:Nat) (ha:a=L.length) (hbb:b=L.length+X.length+M.length) :
  (evL T).call qaj [.sl 0 g 0 n cl,(ii a),(ii b),(ii X.length),(.fn (.func qe) [] [])] [.row 6 ((L++(X++(M++(Y++N)))).map Evt.r) g]=some (.tup [],[.row 6 ((L++(Y++(M++(X++N)))).map Evt.r) g]):=by
 have hlen:n=L.length+(X.length+(M.length+(Y.length+N.length))):=by rw[hn];simp
 have key:=qcq (f:=exec (evL T) itL none qcr) (s:=qu [0,1,2,3,10] true 1) (α:=List Evt)
  (fun i D=>⟨[(0,.sl 0 g 0 n cl),(1,(ii a)),(2,(ii b)),(3,(ii X.length)),(10,(ii i))],[]⟩) (fun i D=>[.row 6 ((D).map Evt.r) g])
  (fun i D=>D=L++((Y.take i++X.drop i)++(M++((X.take i++Y.drop i)++N)))) X.length
  (fun y=>y.1 = .exit 0∧y.2.1.marks=[]∧y.2.2=[.row 6 ((L++(Y++(M++(X++N)))).map Evt.r) g]) ?_ ?_ 0 _ (Nat.zero_le _) rfl
 ·obtain⟨⟨y,e,σ⟩,k1,k2,k3,k4⟩:=key
  simp only[zgo,zgg,zgl,wE]at k1 k2 k3 k4
  subst k2;subst k4
  rw[qd qnd qm6]
  simp only[qc7,k1,k3,qh,wg,qk,wo,zgy,↓qc,↓qq,↓we,wf,wc,wd]
 ·rintro i D hi hD
  obtain⟨x,hx⟩ : ∃x,X[i]? = some x:=⟨_,zgE hi⟩
  obtain⟨y,hy⟩ : ∃y,Y[i]? = some y:=⟨_,zgE (by omega)⟩
  have dx:X.drop i=x::X.drop (i+1):=by obtain⟨_,rfl⟩:=zei.1 hx;exact List.drop_eq_getElem_cons hi
  have dy:Y.drop i=y::Y.drop (i+1):=by obtain⟨_,rfl⟩:=zei.1 hy;exact List.drop_eq_getElem_cons (by omega)
  have e1:D=(L++Y.take i)++x::((X.drop (i+1)++(M++X.take i))++y::(Y.drop (i+1)++N)):=by rw[hD,dx,dy];simp
  have l1:a+i=(L++Y.take i).length:=by simp;omega
  have l2:b+i=a+i+1+(X.drop (i+1)++(M++X.take i)).length:=by simp;omega
  have gx:D[a+i]? = some x:=qwd e1 l1
  have gy:D[b+i]? = some y:=by
   refine qwd (L:=(L++Y.take i)++x::(X.drop (i+1)++(M++X.take i))) (M:=Y.drop (i+1)++N) (by rw[e1];simp) ?_
   rw[l2,l1];simp;omega
  have ge:D.length=n:=by rw[e1,hlen];simp;omega
  have sw:=swap_far e1 l1 l2
  have hne:¬(a+i=b+i):=by omega
  have hi':(i:Int)<(X.length:Int):=by omega
  have wa:IntKind.i64.wrap ((a:Int)+(i:Int))=((a+i:Nat):Int):=qph (by omega)
  have wb:IntKind.i64.wrap ((b:Int)+(i:Int))=((b+i:Nat):Int):=qph (by omega)
  have wi:IntKind.i64.wrap ((i:Int)+1)=((i+1:Nat):Int):=qqh (by omega)
  have ra:a+i<n:=by omega
  have rb:b+i<n:=by omega
  obtain⟨xt,xk,xl,xi,xp,xa⟩:=x
  obtain⟨yt,yk,yl,yi,yp,ya⟩:=y
  have hs : ∀v,((D.map Evt.r).set (a+i) v)[b+i]? = some (Evt.r ⟨yt,yk,yl,yi,yp,ya⟩):=fun v=>by rw[wB hne,List.getElem?_map,gy];rfl
  have hlo:=qh 1 ((D.set (a+i) ⟨yt,yk,yl,yi,yp,ya⟩).set (b+i) ⟨xt,xk,xl,xi,xp,xa⟩)
  simp only[wx,Evt.r]at hlo
  refine .inl ⟨(D.set (a+i) ⟨yt,yk,yl,yi,yp,ya⟩).set (b+i) ⟨xt,xk,xl,xi,xp,xa⟩,?_,?_⟩
  ·simp only[qcr,zgs,zgr,zgq,zgt,gx,gy,hs,hi',wa,wb,wi,ra,rb,hlo,wx,Evt.r,wg,Ev.stP,qb,wm,wn,wo,zgy,↓qc,↓we,wf,wc,wd]
  ·rw[sw,qjg hx,qjg hy];simp
 ·rintro D hD
  have hD':D=L++(Y++(M++(X++N))):=by rw[hD,←hXY,List.take_length,List.drop_length,hXY,List.take_length,List.drop_length];simp
  subst hD'
  simp only[qcr,wu,wg,zgy,↓qc,↓we,wc,wd]
  exact⟨_,rfl,rfl,rfl,rfl⟩
end
open Go.Ev
theorem qaj7 (a b:Int):qwh b a = -qwh a b:=by unfold qwh;split<;>split<;>(try split)<;>omega
theorem qn2 (a b:Int):(qwh a b<0↔a<b)∧(qwh a b=0↔a=b)∧(0<qwh a b↔b<a):=by
 unfold qwh
 split
 ·refine⟨?_,?_,?_⟩<;>omega
 split
 ·refine⟨?_,?_,?_⟩<;>omega
 ·refine⟨?_,?_,?_⟩<;>omega
theorem qah6 : ∀a b:List Int,qpg b a = -qpg a b
 | [],[]=>rfl
 | [],y::b=>by simp[qpg]
 |x::a,[]=>by simp[qpg]
 |x::a,y::b=>by
  simp only[qpg]
  by_cases h:x=y
  ·subst h;simp only[if_true];exact qah6 a b
  ·rw[if_neg h,if_neg (fun e=>h e.symm)];exact qaj7 x y
theorem qaa1 : ∀a b c:List Int,qpg a b≤0→qpg b c≤0→qpg a c≤0
 | [],b,c,_,_=>by cases c<;>simp[qpg]
 |x::a,[],c,h,_=>by simp[qpg]at h
 |x::a,y::b,[],_,h=>by simp[qpg]at h
 |x::a,y::b,z::c,h1,h2=>by
  simp only[qpg]at h1 h2⊢
  have c1:=qn2 x y
  have c2:=qn2 y z
  have c3:=qn2 x z
  by_cases e1:x=y
  ·subst e1
   rw[if_pos rfl]at h1
   by_cases e2:x=z
   ·subst e2;rw[if_pos rfl]at h2 ⊢;exact qaa1 a b c h1 h2
   ·rw[if_neg e2]at h2 ⊢;exact h2
  ·rw[if_neg e1]at h1
   by_cases e2:y=z
   ·subst e2;rw[if_neg e1];exact h1
   ·rw[if_neg e2]at h2
    have:¬x=z:=by intro e;omega
    rw[if_neg this]
    omega
def leE (x y:Evt):Prop:=qxm x y≤0
theorem qu6 (x y:Evt):qxm y x = -qxm x y:=by
 unfold qxm
 have:=qaj7 x.time y.time
 have:=qah6 x.key y.key
 by_cases h:qwh x.time y.time=0
 ·rw[if_pos h,if_pos (by omega)];assumption
 ·rw[if_neg h,if_neg (by omega)];assumption
theorem qqi (x y z:Evt) (h1:leE x y) (h2:leE y z):leE x z:=by
 unfold leE qxm at *
 have c1:=qn2 x.time y.time
 have c2:=qn2 y.time z.time
 have c3:=qn2 x.time z.time
 by_cases e1:qwh x.time y.time=0
 ·rw[if_pos e1]at h1
  by_cases e2:qwh y.time z.time=0
  ·rw[if_pos e2]at h2
   rw[if_pos (by omega)];exact qaa1 _ _ _ h1 h2
  ·rw[if_neg e2]at h2
   rw[if_neg (by omega)];omega
 ·rw[if_neg e1]at h1
  by_cases e2:qwh y.time z.time=0
  ·rw[if_neg (by omega)];omega
  ·rw[if_neg e2]at h2
   rw[if_neg (by omega)];omega
theorem qw7 (x y:Evt) (h:¬qxm x y<0):leE y x:=by unfold leE;have:=qu6 x y;omega
theorem qabi (x y:Evt) (h:qxm x y<0):leE x y:=by unfold leE;omega
theorem qah1 (x y:Evt):qxm x y=0↔x.time=y.time∧x.key=y.key:=by
 unfold qxm
 have:=qn2 x.time y.time
 have:=q7r x.key y.key
 by_cases h:qwh x.time y.time=0
 ·rw[if_pos h];constructor
  ·intro k;exact⟨by omega,by simpa[k]using this⟩
  ·intro k;exact this.2 k.2
 ·rw[if_neg h];constructor
  ·intro k;exact absurd k h
  ·intro k;omega
open Go.Ev
set_option maxRecDepth 10000
section
variable (g:Nat) (cl:Bool) (n:Nat)
def qb0 (D:List Evt):Prop:=∀x∈D,x.key.length≤9223372036854775807
theorem qacw (P S Q:List Evt) (x:Evt) (hn:n=(P++(S++x::Q)).length) (hb:n<2^61) (hk:qb0 (P++(S++x::Q))) (hS:S.Pairwise leE) (a:Nat) (ha:a=P.length) (b i:Int) :
  ∃y,itB (exec (evL T) itL none qbd) (qu [0,1,2,3,8,9] true 1) ⟨[(0,.sl 0 g 0 n cl),(1,(ii a)),(2,(ii b)),(3,(.fn (.func qe) [] [])),(8,(ii i)),(9,(ii ((a+S.length:Nat))))],[]⟩ [.row 6 ((P++(S++x::Q)).map Evt.r) g]=some y ∧
   (y.1 = .exit 2∧y.2.1.marks=[]∧wh y.2.1.vars 0=some (.sl 0 g 0 n cl)∧wh y.2.1.vars 1=some (ii a)∧wh y.2.1.vars 2=some (ii b)∧wh y.2.1.vars 3=some (.fn (.func qe) [] [])∧wh y.2.1.vars 8=some (ii i) ∧ ∃S':List Evt,S'.Perm (x::S)∧S'.Pairwise leE∧y.2.2=[.row 6 ((P++(S'++Q)).map Evt.r) g]):=by
 refine qjo (τ:=List Evt×Nat) (fun s=>⟨[(0,.sl 0 g 0 n cl),(1,(ii a)),(2,(ii b)),(3,(.fn (.func qe) [] [])),(8,(ii i)),(9,(ii s.2))],[]⟩) (fun s=>[.row 6 ((s.1).map Evt.r) g]) (fun s=>s.2)
  (fun s => ∃A B,s.1=P++(A++x::(B++Q))∧s.2=a+A.length∧A++B=S ∧ ∀v,B[0]? = some v→leE x v) _ ?_ (P++(S++x::Q),a+S.length) ⟨S,[],by simp,rfl,by simp,by simp⟩
 rintro⟨D,j⟩ ⟨A,B,hD,hj,hAB,hB⟩
 simp only at hD hj⊢
 have hlen:n=P.length+(S.length+(Q.length+1)):=by rw[hn];simp
 have hSl:S.length=A.length+B.length:=by rw[←hAB];simp
 have fin:(∀u,A[A.length-1]? = some u→leE u x) → ∃S':List Evt,S'.Perm (x::S)∧S'.Pairwise leE∧([.row 6 ((D).map Evt.r) g]:qj)=[.row 6 ((P++(S'++Q)).map Evt.r) g]:=fun h=>by
  refine⟨A++x::B,?_,qrt qqi (by rw[hAB];exact hS) h hB,by rw[hD];simp⟩
  rw[←hAB];exact List.perm_middle
 rcases List.eq_nil_or_concat A with rfl|⟨A0,y,rfl⟩
 ·have h1:¬(j:Int)>(a:Int):=by simp at hj;omega
  refine .inr ?_
  simp only[qbd,h1,wg,zgy,↓qc,↓we,wc,wd]
  exact⟨_,rfl,rfl,rfl,rfl,rfl,rfl,rfl,rfl,fin (by simp)⟩
 ·simp only[List.concat_eq_append,zgp,zga,zgb]at hD hj hSl hAB fin
  obtain⟨k,hk1⟩ : ∃k,k=a+A0.length:=⟨_,rfl⟩
  have hjk:j=k+1:=by omega
  have h1:(j:Int)>(a:Int):=by omega
  have e1:D=(P++A0)++y::x::(B++Q):=by rw[hD];simp
  have l1:k=(P++A0).length:=by simp;omega
  have gy:D[k]? = some y:=qwd e1 l1
  have gx:D[j]? = some x:=qwd (L:=P++A0++[y]) (M:=B++Q) (by rw[e1];simp) (by simp;omega)
  have ge:D.length=n:=by rw[e1,hlen];simp;omega
  have ws:IntKind.i64.wrap ((j:Int)-1)=(k:Int):=q09 hjk (by omega)
  have rj:j<n:=by omega
  have rk:k<n:=by omega
  have kx:x.key.length≤9223372036854775807:=hk x (by simp)
  have ky:y.key.length≤9223372036854775807:=hk y (by rw[←hAB];simp)
  have hc:=qob x y kx ky 6 (D.map Evt.r) g
  have sw:=qaic e1 l1 hjk
  have hne:¬(j=k):=by omega
  by_cases hlt:qxm x y<0
  ·left
   have hle:=qabi x y hlt
   obtain⟨x',rfl⟩ : ∃z,x=z:=⟨x,rfl⟩
   have hlo:=qh 1 ((D.set j y).set k x)
   refine⟨((D.set j y).set k x,k),?_,⟨A0,y::B,by rw[sw];simp,hk1,by rw[←hAB];simp,fun v hv=>by simp at hv;rw[←hv];exact hle⟩,by simp only;omega⟩
   obtain⟨xt,xk,xl,xi,xp,xa⟩:=x
   obtain⟨yt,yk,yl,yi,yp,ya⟩:=y
   have hs : ∀v,((D.map Evt.r).set j v)[k]? = some (Evt.r ⟨yt,yk,yl,yi,yp,ya⟩):=fun v=>by rw[wB hne,List.getElem?_map,gy];rfl
   simp only[wx,Evt.r]at hlo
   simp only at hc
   simp only[qbd,zgs,zgr,zgq,zgt,gx,gy,hs,h1,ws,rj,rk,hc,hlt,hlo,wx,Evt.r,wg,Ev.stP,qb,wm,wn,wo,zgy,↓qc,↓we,wf,wc,wd]
  ·right
   have hf:=fin (fun u hu=>by simp at hu;rw[←hu];exact qw7 x y hlt)
   obtain⟨xt,xk,xl,xi,xp,xa⟩:=x
   obtain⟨yt,yk,yl,yi,yp,ya⟩:=y
   simp only at hc
   simp only[qbd,zgs,zgr,zgq,zgt,gx,gy,h1,ws,rj,rk,hc,hlt,Evt.r,wg,qb,zgy,↓qc,↓we,wf,wc,wd]
   exact⟨_,rfl,rfl,rfl,rfl,rfl,rfl,rfl,rfl,hf⟩
theorem q77 (P S Q:List Evt) (hn:n=(P++(S++Q)).length) (hb:n<2^61) (hk:qb0 (P++(S++Q))) (a b:Nat) (ha:a=P.length) (hbb:b=a+S.length) :
  ∃S':List Evt,S'.Perm S∧S'.Pairwise leE∧(evL T).call qai [.sl 0 g 0 n cl,(ii a),(ii b),(.fn (.func qe) [] [])] [.row 6 ((P++(S++Q)).map Evt.r) g]=some (.tup [],[.row 6 ((P++(S'++Q)).map Evt.r) g]):=by
 have hlen:n=P.length+(S.length+Q.length):=by rw[hn];simp
 have key:=qjo (f:=exec (evL T) itL none qbc) (s:=qu [0,1,2,3,8] true 1) (τ:=List Evt×Nat)
  (fun s=>⟨[(0,.sl 0 g 0 n cl),(1,(ii a)),(2,(ii b)),(3,(.fn (.func qe) [] [])),(8,(ii s.2))],[]⟩) (fun s=>[.row 6 ((s.1).map Evt.r) g]) (fun s=>b-s.2)
  (fun s=>(∃A B,s.1=P++(A++(B++Q))∧s.2=a+A.length∧(A++B).Perm S∧A.Pairwise leE)∨S=[]∧s.1=P++Q∧s.2=a+1)
  (fun y=>y.1 = .exit 0∧y.2.1.marks=[] ∧ ∃S':List Evt,S'.Perm S∧S'.Pairwise leE∧y.2.2=[.row 6 ((P++(S'++Q)).map Evt.r) g]) ?_ (P++(S++Q),a+1) ?_
 ·obtain⟨⟨y,e,σ⟩,k1,k2,k3,S',k4,k5,k6⟩:=key
  simp only at k1 k2 k3 k6
  subst k2;subst k6
  refine⟨S',k4,k5,?_⟩
  have w1:IntKind.i64.wrap ((a:Int)+1)=((a+1:Nat):Int):=qqh (by omega)
  rw[qd qlv qlf]
  simp only[qco,w1,k1,k3,qh,wg,qk,wo,zgy,↓qc,↓qq,↓we,wf,wc,wd]
 ·rintro⟨D,i⟩ (⟨A,B,hD,hi,hAB,hA⟩|⟨hS,hD,hi⟩)
  ·simp only at hD hi⊢
   have hl:=hAB.length_eq
   rw[wk]at hl
   cases B with
   |nil=>
    have h1:¬(i:Int)<(b:Int):=by simp at hl;omega
    right
    simp only[qbc,h1,wg,zgy,↓qc,↓we,wc,wd]
    exact⟨_,rfl,rfl,rfl,A,by simpa using hAB,hA,by rw[hD];simp⟩
   |cons x B=>
    rw[List.length_cons]at hl
    have h1:(i:Int)<(b:Int):=by omega
    have hkD:qb0 (P++(A++x::(B++Q))):=by
     intro z hz
     refine hk z ?_
     simp only[wz,wC]at hz⊢
     have:=hAB.mem_iff (a:=z)
     simp only[wz,wC]at this
     rcases hz with h|h|h|h|h
     ·exact .inl h
     ·exact .inr (.inl (this.1 (.inl h)))
     ·exact .inr (.inl (this.1 (.inr (.inl h))))
     ·exact .inr (.inl (this.1 (.inr (.inr h))))
     ·exact .inr (.inr h)
    obtain⟨⟨y,e,σ⟩,k1,k2,k3,k4,k5,k6,k7,k8,S',k9,k10,k11⟩:=qacw g cl n P A (B++Q) x (by rw[hlen];simp;omega) hb hkD hA a ha b i
    simp only at k1 k2 k3 k4 k5 k6 k7 k8 k11
    subst k2;subst k11
    have w1:IntKind.i64.wrap ((i:Int)+1)=((i+1:Nat):Int):=qqh (by omega)
    left
    refine⟨(P++(S'++(B++Q)),i+1),?_,.inl ⟨S',B,rfl,?_,?_,k10⟩,?_⟩
    ·rw[←hi]at k1
     rw[hD]
     simp only[zgm]at k1⊢
     simp only[qbc,h1,w1,k1,k3,k4,k5,k6,k7,k8,qh,wg,wo,zgy,↓qc,↓qq,↓we,wc,wd]
    ·have:=k9.length_eq;rw[List.length_cons]at this;simp only;omega
    ·exact((k9.append_right B).trans List.perm_middle.symm).trans hAB
    ·simp only;omega
  ·simp only at hD hi⊢
   subst hS
   have h1:¬(i:Int)<(b:Int):=by simp at hbb;omega
   right
   simp only[qbc,h1,wg,zgy,↓qc,↓we,wc,wd]
   exact⟨_,rfl,rfl,rfl,[],List.Perm.nil,List.Pairwise.nil,by rw[hD];simp⟩
 ·cases S with
  |nil=>exact .inr ⟨rfl,by simp,rfl⟩
  |cons x S=>exact .inl ⟨[x],S,by simp,by simp,by simp,List.pairwise_singleton _ _⟩
end
open Go.Ev
set_option maxRecDepth 10000
section
variable (g:Nat) (cl:Bool) (n:Nat)
theorem qamy (L X Y N:List Evt) (hX:0<X.length) (hY:0<Y.length) (hn:n=(L++(X++(Y++N))).length) (hb:n<2^61) (a m b:Nat) (ha:a=L.length) (hm:m=a+X.length) (hbb:b=m+Y.length) :
  (evL T).call qa0 [.sl 0 g 0 n cl,(ii a),(ii m),(ii b),(.fn (.func qe) [] [])] [.row 6 ((L++(X++(Y++N))).map Evt.r) g]=some (.tup [],[.row 6 ((L++(Y++(X++N))).map Evt.r) g]):=by
 have hlen:n=L.length+(X.length+(Y.length+N.length)):=by rw[hn];simp
 have key:=qjo (f:=exec (evL T) itL none qb6) (s:=qu [0,2,4,10,11] true 1) (τ:=List Evt×Nat×Nat)
  (fun s=>⟨[(0,.sl 0 g 0 n cl),(2,(ii m)),(4,(.fn (.func qe) [] [])),(10,(ii s.2.1)),(11,(ii s.2.2))],[]⟩) (fun s=>[.row 6 ((s.1).map Evt.r) g]) (fun s=>s.2.1+s.2.2)
  (fun s => ∃L' X' Y' N',s.1=L'++(X'++(Y'++N'))∧s.2.1=X'.length∧s.2.2=Y'.length∧0<X'.length∧0<Y'.length∧m=L'.length+X'.length∧L'++(Y'++(X'++N'))=L++(Y++(X++N)))
  (fun y => ∃i:Nat,y.1 = .exit 0∧y.2.1.marks=[]∧wh y.2.1.vars 0=some (.sl 0 g 0 n cl)∧wh y.2.1.vars 2=some (ii m)∧wh y.2.1.vars 4=some (.fn (.func qe) [] [])∧wh y.2.1.vars 10=some (ii i) ∧
   ∃L' X' Y' N':List Evt,y.2.2=[.row 6 ((L'++(X'++(Y'++N'))).map Evt.r) g]∧i=X'.length∧i=Y'.length∧m=L'.length+X'.length∧L'++(Y'++(X'++N'))=L++(Y++(X++N))) ?_ (L++(X++(Y++N)),X.length,Y.length) ⟨L,X,Y,N,rfl,rfl,rfl,hX,hY,by omega,rfl⟩
 ·obtain⟨⟨y,e,σ⟩,k1,i,k2,k3,k4,k5,k6,k7,L',X',Y',N',k8,k9,k10,k11,k12⟩:=key
  simp only at k1 k2 k3 k4 k5 k6 k7 k8
  subst k2;subst k8
  have hl2:=congrArg List.length k12
  simp only[zgp]at hl2
  have w1:IntKind.i64.wrap ((m:Int)-(a:Int))=(X.length:Int):=qp1 hm (by omega)
  have w2:IntKind.i64.wrap ((b:Int)-(m:Int))=(Y.length:Int):=qp1 hbb (by omega)
  have w3:IntKind.i64.wrap ((m:Int)-(i:Int))=(L'.length:Int):=qp1 (by omega) (by omega)
  have sw:=qzo g cl n L' X' [] Y' N' (by omega) (by simp;omega) hb L'.length m rfl (by simp;omega)
  simp only[zgl]at sw
  rw[←k9,k12]at sw
  rw[qd qol qn4]
  simp only[qd0,w1,w2,w3,k1,k3,k4,k5,k6,k7,sw,qh,wg,qk,wo,zgy,↓qc,↓qq,↓we,wf,wc,wd]
 ·rintro⟨D,i,j⟩ ⟨L',X',Y',N',hD,hi,hj,hX',hY',hm',heq⟩
  simp only at hD hi hj⊢
  have hl2:=congrArg List.length heq
  simp only[zgp]at hl2
  by_cases hij:i=j
  ·right
   have h1:(i:Int)=(j:Int):=by omega
   subst hij
   simp only[qb6,wg,ne_eq,zgy,↓qc,↓we,wc,wd]
   exact⟨_,rfl,i,rfl,rfl,rfl,rfl,rfl,rfl,L',X',Y',N',by rw[hD],hi,hj,hm',heq⟩
  have h1:¬(i:Int)=(j:Int):=by omega
  left
  by_cases hgt:j<i
  ·have h2:(i:Int)>(j:Int):=by omega
   obtain⟨X1,X2,rfl,hX1⟩ : ∃X1 X2,X'=X1++X2∧X1.length=j:=⟨X'.take j,X'.drop j,(wq _ _).symm,by simp;omega⟩
   rw[wk]at hi hX' hm' hl2
   have sw:=qzo g cl n L' X1 X2 Y' N' (by omega) (by simp;omega) hb L'.length m rfl (by omega)
   rw[show L'++(X1++(X2++(Y'++N')))=D by rw[hD];simp,hX1]at sw
   have w3:IntKind.i64.wrap ((m:Int)-(i:Int))=(L'.length:Int):=qp1 (by omega) (by omega)
   have w4:IntKind.i64.wrap ((i:Int)-(j:Int))=(X2.length:Int):=qp1 (by omega) (by omega)
   refine⟨(L'++(Y'++(X2++(X1++N'))),X2.length,j),?_,⟨L'++Y',X2,X1,N',by simp,rfl,hX1.symm,by omega,by omega,by simp;omega,by rw[←heq];simp⟩,by first|omega|(simp only;omega)⟩
   simp only[qb6,h1,h2,w3,w4,sw,qh,wg,wo,ne_eq,zgy,↓qc,↓we,wc,wd]
  ·have h2:¬(i:Int)>(j:Int):=by omega
   obtain⟨Y1,Y2,rfl,hY2⟩ : ∃Y1 Y2,Y'=Y1++Y2∧Y2.length=i:=⟨Y'.take (j-i),Y'.drop (j-i),(wq _ _).symm,by simp;omega⟩
   rw[wk]at hj hY' hl2
   have sw:=qzo g cl n L' X' Y1 Y2 N' (by omega) (by simp;omega) hb L'.length (m+Y1.length) rfl (by omega)
   rw[show L'++(X'++(Y1++(Y2++N')))=D by rw[hD];simp,←hi]at sw
   have w3:IntKind.i64.wrap ((m:Int)-(i:Int))=(L'.length:Int):=qp1 (by omega) (by omega)
   have w4:IntKind.i64.wrap ((m:Int)+(j:Int))=((m+j:Nat):Int):=qph (by omega)
   have w5:IntKind.i64.wrap (((m+j:Nat):Int)-(i:Int))=((m+Y1.length:Nat):Int):=qp1 (by omega) (by omega)
   have w6:IntKind.i64.wrap ((j:Int)-(i:Int))=(Y1.length:Int):=qp1 (by omega) (by omega)
   refine⟨(L'++(Y2++(Y1++(X'++N'))),i,Y1.length),?_,⟨L',Y2,Y1,X'++N',rfl,hY2.symm,rfl,by omega,by omega,by omega,by rw[←heq];simp⟩,by first|omega|(simp only;omega)⟩
   simp only[qb6,h1,h2,w3,w4,w5,w6,sw,qh,wg,wo,ne_eq,zgy,↓qc,↓we,wc,wd]
end
open Go.Ev
set_option maxRecDepth 10000
theorem q49 (s h:Nat) (hh:h=s / 2):qpv .shr (.v (.int .u64 (s:Int))) (.v (.int .u64 1))=some (.v (.int .u64 (h:Int))):=by
 subst hh
 show (if (1:Int)<0 then none else some (AV.v (.int .u64 ((s:Int).fdiv (2^(min (1:Int).toNat IntKind.u64.bits)))))) = _
 rw[if_neg (by omega),show (2:Int)^(min (1:Int).toNat IntKind.u64.bits)=2 from rfl,Int.fdiv_eq_ediv_of_nonneg _ (by omega)]
 rw[show (s:Int) / 2=((s / 2:Nat):Int) by omega]
theorem qzw {n:Nat} (h:n<2^63):IntKind.u64.wrap (n:Int)=(n:Int):=by
 have h3:IntKind.u64.bits=64:=rfl
 have h4:IntKind.u64.signed=false:=rfl
 simp only[IntKind.wrap,h3,h4,Bool.false_and,zfa,if_false]
 omega
theorem qzl {n:Nat} (h:n<2^63):IntKind.i64.wrap (n:Int)=(n:Int):=qi (by omega) (by omega)
section
variable (g:Nat) (cl:Bool) (n:Nat)
theorem qai0 (D:List Evt) (x:Evt) (hn:n=D.length) (hb:n<2^61) (hk:qb0 D) (a m b:Nat) (ha:D[a]? = some x) (hmb:m≤b) (hbn:b≤n) (han:a<n) :
  ∃y,itB (exec (evL T) itL none qbq) (qu [0,1,4,10,11] true 1) ⟨[(0,.sl 0 g 0 n cl),(1,(ii a)),(4,(.fn (.func qe) [] [])),(10,(ii m)),(11,(ii b))],[]⟩ [.row 6 ((D).map Evt.r) g]=some y ∧
   ∃i:Nat,y.1 = .exit 0∧y.2.1.marks=[]∧y.2.2=[.row 6 ((D).map Evt.r) g]∧wh y.2.1.vars 0=some (.sl 0 g 0 n cl)∧wh y.2.1.vars 1=some (ii a)∧wh y.2.1.vars 10=some (ii i)∧m≤i∧i≤b∧(i=m ∨ ∀v,D[i-1]? = some v→leE v x)∧(i=b ∨ ∀v,D[i]? = some v→leE x v):=by
 refine qjo (τ:=Nat×Nat) (fun s=>⟨[(0,.sl 0 g 0 n cl),(1,(ii a)),(4,(.fn (.func qe) [] [])),(10,(ii s.1)),(11,(ii s.2))],[]⟩) (fun _=>[.row 6 ((D).map Evt.r) g]) (fun s=>s.2-s.1)
  (fun s=>m≤s.1∧s.1≤s.2∧s.2≤b∧(s.1=m ∨ ∀v,D[s.1-1]? = some v→leE v x)∧(s.2=b ∨ ∀v,D[s.2]? = some v→leE x v)) _ ?_ (m,b) ⟨ww _,hmb,ww _,.inl rfl,.inl rfl⟩
 rintro⟨i,j⟩ ⟨h1,h2,h3,h4,h5⟩
 simp only at h1 h2 h3 h4 h5⊢
 by_cases hij:i<j
 case neg=>
  have c1:¬(i:Int)<(j:Int):=by omega
  right
  simp only[qbq,c1,wg,zgy,↓qc,↓we,wc,wd]
  refine⟨_,rfl,i,rfl,rfl,rfl,rfl,rfl,rfl,h1,by omega,h4,?_⟩
  obtain rfl:i=j:=by omega
  exact h5
 obtain⟨h,hh⟩ : ∃h,h=(i+j) / 2:=⟨_,rfl⟩
 have c1:(i:Int)<(j:Int):=by omega
 obtain⟨y,hy⟩ : ∃y,D[h]? = some y:=⟨_,zgE (by omega)⟩
 have w1:IntKind.i64.wrap ((i:Int)+(j:Int))=((i+j:Nat):Int):=qph (by omega)
 have w2:IntKind.u64.wrap ((i+j:Nat):Int)=((i+j:Nat):Int):=qzw (by omega)
 have w3:=q49 (i+j) h hh
 have w4:IntKind.i64.wrap (h:Int)=(h:Int):=qzl (by omega)
 have w5:IntKind.i64.wrap ((h:Int)+1)=((h+1:Nat):Int):=qqh (by omega)
 have rh:h<n:=by omega
 have kx:x.key.length≤9223372036854775807:=hk x (zmg ha)
 have ky:y.key.length≤9223372036854775807:=hk y (zmg hy)
 have hc:=qob y x ky kx 6 (D.map Evt.r) g
 left
 by_cases hlt:qxm y x<0
 ·refine⟨(h+1,j),?_,⟨by simp only;omega,by simp only;omega,h3,.inr fun v hv => ?_,h5⟩,by simp only;omega⟩
  ·obtain⟨xt,xk,xl,xi,xp,xa⟩:=x
   obtain⟨yt,yk,yl,yi,yp,ya⟩:=y
   simp only at hc
   simp only[qbq,zgs,zgr,zgq,zgt,ha,hy,c1,w1,w2,w3,w4,w5,rh,han,hc,hlt,Evt.r,qh,wg,qb,wo,zgy,↓qc,↓we,wf,wc,wd]
  ·simp only[wy]at hv
   rw[hy]at hv;cases hv;exact qabi y x hlt
 ·refine⟨(i,h),?_,⟨h1,by simp only;omega,by simp only;omega,h4,.inr fun v hv => ?_⟩,by simp only;omega⟩
  ·obtain⟨xt,xk,xl,xi,xp,xa⟩:=x
   obtain⟨yt,yk,yl,yi,yp,ya⟩:=y
   simp only at hc
   simp only[qbq,zgs,zgr,zgq,zgt,ha,hy,c1,w1,w2,w3,w4,rh,han,hc,hlt,Evt.r,qh,wg,qb,wo,zgy,↓qc,↓we,wf,wc,wd]
  ·simp only at hv
   rw[hy]at hv;cases hv;exact qw7 y x hlt
theorem qaji (D:List Evt) (x:Evt) (hn:n=D.length) (hb:n<2^61) (hk:qb0 D) (a m:Nat) (hm:D[m]? = some x) (ham:a≤m) (hmn:m<n) :
  ∃y,itB (exec (evL T) itL none qbr) (qu [0,2,4,14,15] true 1) ⟨[(0,.sl 0 g 0 n cl),(2,(ii m)),(4,(.fn (.func qe) [] [])),(14,(ii a)),(15,(ii m))],[]⟩ [.row 6 ((D).map Evt.r) g]=some y ∧
   ∃i:Nat,y.1 = .exit 4∧y.2.1.marks=[]∧y.2.2=[.row 6 ((D).map Evt.r) g]∧wh y.2.1.vars 0=some (.sl 0 g 0 n cl)∧wh y.2.1.vars 2=some (ii m)∧wh y.2.1.vars 14=some (ii i)∧a≤i∧i≤m∧(i=a ∨ ∀v,D[i-1]? = some v→leE v x)∧(i=m ∨ ∀v,D[i]? = some v→leE x v):=by
 refine qjo (τ:=Nat×Nat) (fun s=>⟨[(0,.sl 0 g 0 n cl),(2,(ii m)),(4,(.fn (.func qe) [] [])),(14,(ii s.1)),(15,(ii s.2))],[]⟩) (fun _=>[.row 6 ((D).map Evt.r) g]) (fun s=>s.2-s.1)
  (fun s=>a≤s.1∧s.1≤s.2∧s.2≤m∧(s.1=a ∨ ∀v,D[s.1-1]? = some v→leE v x)∧(s.2=m ∨ ∀v,D[s.2]? = some v→leE x v)) _ ?_ (a,m) ⟨ww _,ham,ww _,.inl rfl,.inl rfl⟩
 rintro⟨i,j⟩ ⟨h1,h2,h3,h4,h5⟩
 simp only at h1 h2 h3 h4 h5⊢
 by_cases hij:i<j
 case neg=>
  have c1:¬(i:Int)<(j:Int):=by omega
  right
  simp only[qbr,c1,wg,zgy,↓qc,↓we,wc,wd]
  refine⟨_,rfl,i,rfl,rfl,rfl,rfl,rfl,rfl,h1,by omega,h4,?_⟩
  obtain rfl:i=j:=by omega
  exact h5
 obtain⟨h,hh⟩ : ∃h,h=(i+j) / 2:=⟨_,rfl⟩
 have c1:(i:Int)<(j:Int):=by omega
 obtain⟨y,hy⟩ : ∃y,D[h]? = some y:=⟨_,zgE (by omega)⟩
 have w1:IntKind.i64.wrap ((i:Int)+(j:Int))=((i+j:Nat):Int):=qph (by omega)
 have w2:IntKind.u64.wrap ((i+j:Nat):Int)=((i+j:Nat):Int):=qzw (by omega)
 have w3:=q49 (i+j) h hh
 have w4:IntKind.i64.wrap (h:Int)=(h:Int):=qzl (by omega)
 have w5:IntKind.i64.wrap ((h:Int)+1)=((h+1:Nat):Int):=qqh (by omega)
 have rh:h<n:=by omega
 have kx:x.key.length≤9223372036854775807:=hk x (zmg hm)
 have ky:y.key.length≤9223372036854775807:=hk y (zmg hy)
 have hc:=qob x y kx ky 6 (D.map Evt.r) g
 left
 by_cases hlt:qxm x y<0
 ·refine⟨(i,h),?_,⟨h1,by simp only;omega,by simp only;omega,h4,.inr fun v hv => ?_⟩,by simp only;omega⟩
  ·obtain⟨xt,xk,xl,xi,xp,xa⟩:=x
   obtain⟨yt,yk,yl,yi,yp,ya⟩:=y
   simp only at hc
   simp only[qbr,zgs,zgr,zgq,zgt,hm,hy,c1,w1,w2,w3,w4,rh,hmn,hc,hlt,Evt.r,qh,wg,qb,wo,zgy,↓qc,↓we,wf,wc,wd]
  ·simp only at hv
   rw[hy]at hv;cases hv;exact qabi x y hlt
 ·refine⟨(h+1,j),?_,⟨by simp only;omega,by simp only;omega,h3,.inr fun v hv => ?_,h5⟩,by simp only;omega⟩
  ·obtain⟨xt,xk,xl,xi,xp,xa⟩:=x
   obtain⟨yt,yk,yl,yi,yp,ya⟩:=y
   simp only at hc
   simp only[qbr,zgs,zgr,zgq,zgt,hm,hy,c1,w1,w2,w3,w4,w5,rh,hmn,hc,hlt,Evt.r,qh,wg,qb,wo,zgy,↓qc,↓we,wf,wc,wd]
  ·simp only[wy]at hv
   rw[hy]at hv;cases hv;exact qw7 x y hlt
theorem qajn (D:List Evt) (hn:n=D.length) (hb:n<2^61) (hk:qb0 D) (a m b mid nn p lo hi:Nat) (hp:nn=p+1) (hlh:lo≤hi) (hdom : ∀c,lo≤c→c<hi→c<n∧c≤p∧p-c<n) (hnn:nn<2^62) (hhn:hi≤n) :
  ∃y,itB (exec (evL T) itL none qa5) (qu [0,1,2,3,4,18,19,20,21,22] true 1) ⟨[(0,.sl 0 g 0 n cl),(1,(ii a)),(2,(ii m)),(3,(ii b)),(4,(.fn (.func qe) [] [])),(18,(ii mid)),(19,(ii nn)),(20,(ii lo)),(21,(ii hi)),(22,(ii p))],[]⟩ [.row 6 ((D).map Evt.r) g]=some y ∧
   ∃i:Nat,y.1 = .exit 8∧y.2.1.marks=[]∧y.2.2=[.row 6 ((D).map Evt.r) g]∧wh y.2.1.vars 0=some (.sl 0 g 0 n cl)∧wh y.2.1.vars 1=some (ii a)∧wh y.2.1.vars 2=some (ii m)∧wh y.2.1.vars 3=some (ii b)∧wh y.2.1.vars 4=some (.fn (.func qe) [] [])∧wh y.2.1.vars 18=some (ii mid) ∧
    wh y.2.1.vars 19=some (ii nn)∧wh y.2.1.vars 20=some (ii i)∧lo≤i∧i≤hi∧(i=lo ∨ ∀u v,D[i-1]? = some u→D[p-(i-1)]? = some v→leE u v)∧(i=hi ∨ ∀u v,D[p-i]? = some u→D[i]? = some v→leE u v):=by
 refine qjo (τ:=Nat×Nat) (fun s=>⟨[(0,.sl 0 g 0 n cl),(1,(ii a)),(2,(ii m)),(3,(ii b)),(4,(.fn (.func qe) [] [])),(18,(ii mid)),(19,(ii nn)),(20,(ii s.1)),(21,(ii s.2)),(22,(ii p))],[]⟩) (fun _=>[.row 6 ((D).map Evt.r) g]) (fun s=>s.2-s.1)
  (fun s=>lo≤s.1∧s.1≤s.2∧s.2≤hi∧(s.1=lo ∨ ∀u v,D[s.1-1]? = some u→D[p-(s.1-1)]? = some v→leE u v)∧(s.2=hi ∨ ∀u v,D[p-s.2]? = some u→D[s.2]? = some v→leE u v)) _ ?_ (lo,hi) ⟨ww _,hlh,ww _,.inl rfl,.inl rfl⟩
 rintro⟨i,j⟩ ⟨h1,h2,h3,h4,h5⟩
 simp only at h1 h2 h3 h4 h5⊢
 by_cases hij:i<j
 case neg=>
  have c1:¬(i:Int)<(j:Int):=by omega
  right
  simp only[qa5,c1,wg,zgy,↓qc,↓we,wc,wd]
  refine⟨_,rfl,i,rfl,rfl,rfl,rfl,rfl,rfl,rfl,rfl,rfl,rfl,rfl,h1,by omega,h4,?_⟩
  obtain rfl:i=j:=by omega
  exact h5
 obtain⟨h,hh⟩ : ∃h,h=(i+j) / 2:=⟨_,rfl⟩
 have c1:(i:Int)<(j:Int):=by omega
 obtain⟨d1,d2,d3⟩:=hdom h (by omega) (by omega)
 obtain⟨q,hq⟩ : ∃q,q=p-h:=⟨_,rfl⟩
 obtain⟨y,hy⟩ : ∃y,D[h]? = some y:=⟨_,zgE (by omega)⟩
 obtain⟨x,hx⟩ : ∃x,D[q]? = some x:=⟨_,zgE (by omega)⟩
 have w1:IntKind.i64.wrap ((i:Int)+(j:Int))=((i+j:Nat):Int):=qph (by omega)
 have w2:IntKind.u64.wrap ((i+j:Nat):Int)=((i+j:Nat):Int):=qzw (by omega)
 have w3:=q49 (i+j) h hh
 have w4:IntKind.i64.wrap (h:Int)=(h:Int):=qzl (by omega)
 have w5:IntKind.i64.wrap ((h:Int)+1)=((h+1:Nat):Int):=qqh (by omega)
 have w6:IntKind.i64.wrap ((p:Int)-(h:Int))=(q:Int):=qp1 (by omega) (by omega)
 have rq:q<n:=by omega
 have kx:x.key.length≤9223372036854775807:=hk x (zmg hx)
 have ky:y.key.length≤9223372036854775807:=hk y (zmg hy)
 have hc:=qob x y kx ky 6 (D.map Evt.r) g
 left
 by_cases hlt:qxm x y<0
 ·refine⟨(i,h),?_,⟨h1,by simp only;omega,by simp only;omega,h4,.inr fun u v hu hv => ?_⟩,by simp only;omega⟩
  ·obtain⟨xt,xk,xl,xi,xp,xa⟩:=x
   obtain⟨yt,yk,yl,yi,yp,ya⟩:=y
   simp only at hc
   simp only[qa5,zgs,zgr,zgq,zgt,hx,hy,c1,w1,w2,w3,w4,w6,d1,rq,hc,hlt,Evt.r,qh,wg,qb,wo,zgy,↓qc,↓we,wf,wc,wd]
  ·simp only at hu hv
   rw[←hq,hx]at hu;cases hu
   rw[hy]at hv;cases hv;exact qabi x y hlt
 ·refine⟨(h+1,j),?_,⟨by simp only;omega,by simp only;omega,h3,.inr fun u v hu hv => ?_,h5⟩,by simp only;omega⟩
  ·obtain⟨xt,xk,xl,xi,xp,xa⟩:=x
   obtain⟨yt,yk,yl,yi,yp,ya⟩:=y
   simp only at hc
   simp only[qa5,zgs,zgr,zgq,zgt,hx,hy,c1,w1,w2,w3,w4,w5,w6,d1,rq,hc,hlt,Evt.r,qh,wg,qb,wo,zgy,↓qc,↓we,wf,wc,wd]
  ·simp only[wy]at hu hv
   rw[←hq,hx]at hv;cases hv
   rw[hy]at hu;cases hu;exact qw7 x y hlt
end
open Go.Ev
set_option maxRecDepth 10000
section
variable (g:Nat) (cl:Bool) (n:Nat)
theorem qaiq (P S Q:List Evt) (x:Evt) (hn:n=(P++x::(S++Q)).length) (hb:n<2^61) (a i:Nat) (ha:a=P.length) (hi:i=a+S.length+1) :
  ∃y,itB (exec (evL T) itL none qcu) (qu [0,10,13] true 1) ⟨[(0,.sl 0 g 0 n cl),(10,(ii i)),(13,(ii a))],[]⟩ [.row 6 ((P++x::(S++Q)).map Evt.r) g]=some y ∧
   (y.1 = .exit 2∧y.2.1.marks=[]∧y.2.2=[.row 6 ((P++(S++x::Q)).map Evt.r) g]):=by
 refine qjo (τ:=List Evt×Nat) (fun s=>⟨[(0,.sl 0 g 0 n cl),(10,(ii i)),(13,(ii s.2))],[]⟩) (fun s=>[.row 6 ((s.1).map Evt.r) g]) (fun s=>i-s.2)
  (fun s => ∃A B,s.1=P++(A++x::(B++Q))∧s.2=a+A.length∧A++B=S) _ ?_ (P++x::(S++Q),a) ⟨[],S,by simp,rfl,by simp⟩
 rintro⟨D,k⟩ ⟨A,B,hD,hk,hAB⟩
 simp only at hD hk⊢
 have hlen:n=P.length+(S.length+(Q.length+1)):=by rw[hn];simp;omega
 have hSl:S.length=A.length+B.length:=by rw[←hAB];simp
 obtain⟨i',hi'⟩ : ∃i',i'=a+S.length:=⟨_,rfl⟩
 have w1:IntKind.i64.wrap ((i:Int)-1)=(i':Int):=q09 (by omega) (by omega)
 cases B with
 |nil=>
  have h1:¬(k:Int)<(i':Int):=by simp at hSl;omega
  right
  simp only[qcu,w1,h1,wg,zgy,↓qc,↓we,wc,wd]
  refine⟨_,rfl,rfl,rfl,?_⟩
  rw[hD,←hAB];simp
 |cons y B=>
  rw[List.length_cons]at hSl
  have h1:(k:Int)<(i':Int):=by omega
  have e1:D=(P++A)++x::y::(B++Q):=by rw[hD];simp
  have l1:k=(P++A).length:=by simp;omega
  obtain⟨j,hj⟩ : ∃j,j=k+1:=⟨_,rfl⟩
  have gx:D[k]? = some x:=qwd e1 l1
  have gy:D[j]? = some y:=qwd (L:=P++A++[x]) (M:=B++Q) (by rw[e1];simp) (by simp;omega)
  have ge:D.length=n:=by rw[e1,hlen];simp;omega
  have w2:IntKind.i64.wrap ((k:Int)+1)=(j:Int):=by rw[hj];exact qqh (by omega)
  have rj:j<n:=by omega
  have rk:k<n:=by omega
  have sw:=qal2 e1 l1 hj
  have hne:¬(k=j):=by omega
  left
  have hlo:=qh 1 ((D.set k y).set j x)
  refine⟨((D.set k y).set j x,j),?_,⟨A++[y],B,by rw[sw];simp,by simp;omega,by rw[←hAB];simp⟩,by simp only;omega⟩
  obtain⟨xt,xk,xl,xi,xp,xa⟩:=x
  obtain⟨yt,yk,yl,yi,yp,ya⟩:=y
  have hs : ∀v,((D.map Evt.r).set k v)[j]? = some (Evt.r ⟨yt,yk,yl,yi,yp,ya⟩):=fun v=>by rw[wB hne,List.getElem?_map,gy];rfl
  simp only[wx,Evt.r]at hlo
  simp only[qcu,zgs,zgr,zgq,zgt,gx,gy,hs,h1,w1,w2,rj,rk,hlo,wx,Evt.r,wg,Ev.stP,qb,wm,wn,wo,zgy,↓qc,↓we,wf,wc,wd]
theorem qajm (P S Q:List Evt) (x:Evt) (hn:n=(P++(S++x::Q)).length) (hb:n<2^61) (m i:Nat) (hi:i=P.length) (hm:m=i+S.length) :
  ∃y,itB (exec (evL T) itL none qcv) (qu [0,14,17] true 1) ⟨[(0,.sl 0 g 0 n cl),(14,(ii i)),(17,(ii m))],[]⟩ [.row 6 ((P++(S++x::Q)).map Evt.r) g]=some y ∧
   (y.1 = .exit 6∧y.2.1.marks=[]∧y.2.2=[.row 6 ((P++x::(S++Q)).map Evt.r) g]):=by
 refine qjo (τ:=List Evt×Nat) (fun s=>⟨[(0,.sl 0 g 0 n cl),(14,(ii i)),(17,(ii s.2))],[]⟩) (fun s=>[.row 6 ((s.1).map Evt.r) g]) (fun s=>s.2)
  (fun s => ∃A B,s.1=P++(A++x::(B++Q))∧s.2=i+A.length∧A++B=S) _ ?_ (P++(S++x::Q),m) ⟨S,[],by simp,hm,by simp⟩
 rintro⟨D,j⟩ ⟨A,B,hD,hj,hAB⟩
 simp only at hD hj⊢
 have hlen:n=P.length+(S.length+(Q.length+1)):=by rw[hn];simp
 have hSl:S.length=A.length+B.length:=by rw[←hAB];simp
 rcases List.eq_nil_or_concat A with rfl|⟨A0,y,rfl⟩
 ·have h1:¬(j:Int)>(i:Int):=by simp at hj;omega
  right
  simp only[qcv,h1,wg,zgy,↓qc,↓we,wc,wd]
  refine⟨_,rfl,rfl,rfl,?_⟩
  rw[hD,←hAB];simp
 ·simp only[List.concat_eq_append,zgp,zga,zgb]at hD hj hSl hAB
  obtain⟨k,hk1⟩ : ∃k,k=i+A0.length:=⟨_,rfl⟩
  have hjk:j=k+1:=by omega
  have h1:(j:Int)>(i:Int):=by omega
  have e1:D=(P++A0)++y::x::(B++Q):=by rw[hD];simp
  have l1:k=(P++A0).length:=by simp;omega
  have gy:D[k]? = some y:=qwd e1 l1
  have gx:D[j]? = some x:=qwd (L:=P++A0++[y]) (M:=B++Q) (by rw[e1];simp) (by simp;omega)
  have ge:D.length=n:=by rw[e1,hlen];simp;omega
  have ws:IntKind.i64.wrap ((j:Int)-1)=(k:Int):=q09 hjk (by omega)
  have rj:j<n:=by omega
  have rk:k<n:=by omega
  have sw:=qaic e1 l1 hjk
  have hne:¬(j=k):=by omega
  left
  have hlo:=qh 1 ((D.set j y).set k x)
  refine⟨((D.set j y).set k x,k),?_,⟨A0,y::B,by rw[sw];simp,hk1,by rw[←hAB];simp⟩,by simp only;omega⟩
  obtain⟨xt,xk,xl,xi,xp,xa⟩:=x
  obtain⟨yt,yk,yl,yi,yp,ya⟩:=y
  have hs : ∀v,((D.map Evt.r).set j v)[k]? = some (Evt.r ⟨yt,yk,yl,yi,yp,ya⟩):=fun v=>by rw[wB hne,List.getElem?_map,gy];rfl
  simp only[wx,Evt.r]at hlo
  simp only[qcv,zgs,zgr,zgq,zgt,gx,gy,hs,h1,ws,rj,rk,hlo,wx,Evt.r,wg,Ev.stP,qb,wm,wn,wo,zgy,↓qc,↓we,wf,wc,wd]
theorem qb0.perm {D E:List Evt} (h:qb0 D) (p:E.Perm D):qb0 E:=fun x hx=>h x (p.mem_iff.1 hx)
theorem qall (P Y Q:List Evt) (x:Evt) (hY:Y.Pairwise leE) (hY0:0<Y.length) (hn:n=(P++x::(Y++Q)).length) (hb:n<2^61) (hk:qb0 (P++x::(Y++Q))) (a m b:Nat) (ha:a=P.length) (hm:m=a+1) (hbb:b=m+Y.length) :
  ∃Z:List Evt,Z.Perm (x::Y)∧Z.Pairwise leE∧(evL T).call qx [.sl 0 g 0 n cl,(ii a),(ii m),(ii b),(.fn (.func qe) [] [])] [.row 6 ((P++x::(Y++Q)).map Evt.r) g]=some (.tup [],[.row 6 ((P++(Z++Q)).map Evt.r) g]):=by
 have hlen:n=P.length+(1+(Y.length+Q.length)):=by rw[hn];simp;omega
 obtain⟨⟨y,e,σ⟩,k1,i,k2,k3,k4,k5,k6,k7,k8,k9,k10,k11⟩:=qai0 g cl n (P++x::(Y++Q)) x hn hb hk a m b (qwd rfl ha) (by omega) (by omega) (by omega)
 simp only at k1 k2 k3 k4 k5 k6 k7
 subst k2;subst k4
 obtain⟨Y1,Y2,rfl,hY1⟩ : ∃Y1 Y2,Y=Y1++Y2∧Y1.length=i-m:=⟨Y.take (i-m),Y.drop (i-m),(wq _ _).symm,by simp;omega⟩
 rw[wk]at hbb hlen hY0
 obtain⟨⟨y',e',σ'⟩,l1,l2,l3,l4⟩:=qaiq g cl n P Y1 (Y2++Q) x (by rw[hlen];simp;omega) hb a i ha (by omega)
 simp only at l1 l2 l3 l4
 subst l2;subst l4
 rw[wl]at hk
 refine⟨Y1++x::Y2,List.perm_middle,qrt qqi hY ?_ ?_,?_⟩
 ·intro u hu
  rcases k10 with h|h
  ·rw[show Y1=[] from wj (by omega)]at hu;simp at hu
  ·have hlt:Y1.length-1<Y1.length:=(zei.1 hu).1
   refine h u ?_
   rw[←hu]
   exact q70 (L:=P++[x]) (X:=Y1) (M:=Y2++Q) (by simp) hlt (by simp;omega)
 ·intro v hv
  rcases k11 with h|h
  ·rw[show Y2=[] from wj (by omega)]at hv;simp at hv
  ·have hlt:0<Y2.length:=(zei.1 hv).1
   refine h v ?_
   rw[←hv]
   exact q70 (L:=P++x::Y1) (X:=Y2) (M:=Q) (by simp) hlt (by simp;omega)
 ·have c1:(m:Int)-(a:Int)=1:=by omega
  have w1:IntKind.i64.wrap ((m:Int)-(a:Int))=1:=by rw[c1];exact qi (by omega) (by omega)
  rw[wl]at k1⊢
  rw[qd qeq qek]
  simp only[wl,zgm]
  simp only[qa3,w1,k1,k3,k5,k6,k7,l1,l3,qh,wg,qk,wo,zgy,↓qc,↓qq,↓we,wf,wc,wd]
theorem qamo (P X Q:List Evt) (x:Evt) (hX:X.Pairwise leE) (hX0:1<X.length) (hn:n=(P++(X++x::Q)).length) (hb:n<2^61) (hk:qb0 (P++(X++x::Q))) (a m b:Nat) (ha:a=P.length) (hm:m=a+X.length) (hbb:b=m+1) :
  ∃Z:List Evt,Z.Perm (X++[x])∧Z.Pairwise leE∧(evL T).call qx [.sl 0 g 0 n cl,(ii a),(ii m),(ii b),(.fn (.func qe) [] [])] [.row 6 ((P++(X++x::Q)).map Evt.r) g]=some (.tup [],[.row 6 ((P++(Z++Q)).map Evt.r) g]):=by
 have hlen:n=P.length+(X.length+(Q.length+1)):=by rw[hn];simp
 obtain⟨⟨y,e,σ⟩,k1,i,k2,k3,k4,k5,k6,k7,k8,k9,k10,k11⟩:=qaji g cl n (P++(X++x::Q)) x hn hb hk a m (qwd (L:=P++X) (M:=Q) (by simp) (by simp;omega)) (by omega) (by omega)
 simp only at k1 k2 k3 k4 k5 k6 k7
 subst k2;subst k4
 obtain⟨X1,X2,rfl,hX1⟩ : ∃X1 X2,X=X1++X2∧X1.length=i-a:=⟨X.take (i-a),X.drop (i-a),(wq _ _).symm,by simp;omega⟩
 rw[wk]at hm hlen hX0
 obtain⟨⟨y',e',σ'⟩,l1,l2,l3,l4⟩:=qajm g cl n (P++X1) X2 Q x (by rw[hlen];simp;omega) hb m i (by simp;omega) (by omega)
 simp only at l1 l2 l3 l4
 subst l2;subst l4
 refine⟨X1++x::X2,?_,qrt qqi hX ?_ ?_,?_⟩
 ·rw[wl]
  exact wv X1 (List.perm_append_singleton x X2).symm
 ·intro u hu
  rcases k10 with h|h
  ·rw[show X1=[] from wj (by omega)]at hu;simp at hu
  ·have hlt:X1.length-1<X1.length:=(zei.1 hu).1
   refine h u ?_
   rw[←hu]
   exact q70 (L:=P) (X:=X1) (M:=X2++x::Q) (by simp) hlt (by omega)
 ·intro v hv
  rcases k11 with h|h
  ·rw[show X2=[] from wj (by omega)]at hv;simp at hv
  ·have hlt:0<X2.length:=(zei.1 hv).1
   refine h v ?_
   rw[←hv]
   exact q70 (L:=P++X1) (X:=X2) (M:=x::Q) (by simp) hlt (by simp;omega)
 ·have w1:IntKind.i64.wrap ((m:Int)-(a:Int))=((X1.length+X2.length:Nat):Int):=qp1 hm (by omega)
  have h1:¬((X1.length+X2.length:Nat):Int)=1:=by omega
  have w2:IntKind.i64.wrap ((b:Int)-(m:Int))=1:=by rw[show (b:Int)-(m:Int)=1 by omega];exact qi (by omega) (by omega)
  rw[qd qeq qek]
  simp only[wl,zgm]at k1 l1⊢
  simp only[qa3,w1,w2,h1,k1,k3,k5,k6,k7,l1,l3,qh,wg,qk,wo,zgy,↓qc,↓qq,↓we,wf,wc,wd]
end
open Go.Ev
set_option maxRecDepth 10000
section
variable (g:Nat) (cl:Bool) (n:Nat)
def qyd (a m b:Nat) (D D':List Evt):Prop:=(evL T).call qx [.sl 0 g 0 n cl,(ii a),(ii m),(ii b),(.fn (.func qe) [] [])] [.row 6 ((D).map Evt.r) g]=some (.tup [],[.row 6 ((D').map Evt.r) g])
structure Nums (x1 x2 y1 y2 a m b mid nn lo hi p start fin:Nat):Prop where
 hX1:1<x1+x2
 hY1:1<y1+y2
 hb:n<2^61
 hmid:mid=(a+b) / 2
 hnn:nn=mid+m
 hp:nn=p+1
 hfin:nn=start+fin
 hm:m=a+(x1+x2)
 hbb:b=m+(y1+y2)
 hbn:b≤n
 hst:start=a+x1
 hfi:fin=m+y1
structure Wraps (x1 x2 y1 y2 a m b mid nn p start fin:Nat):Prop where
 w1:IntKind.i64.wrap ((m:Int)-(a:Int))=((x1+x2:Nat):Int)
 h1:¬((x1+x2:Nat):Int)=1
 w2:IntKind.i64.wrap ((b:Int)-(m:Int))=((y1+y2:Nat):Int)
 h2:¬((y1+y2:Nat):Int)=1
 w3:IntKind.i64.wrap ((a:Int)+(b:Int))=((a+b:Nat):Int)
 w4:IntKind.u64.wrap ((a+b:Nat):Int)=((a+b:Nat):Int)
 w5:qpv .shr (.v (.int .u64 ((a+b:Nat):Int))) (.v (.int .u64 1))=some (.v (.int .u64 (mid:Int)))
 w6:IntKind.i64.wrap (mid:Int)=(mid:Int)
 w7:IntKind.i64.wrap ((mid:Int)+(m:Int))=(nn:Int)
 w8:IntKind.i64.wrap ((nn:Int)-1)=(p:Int)
 w9:IntKind.i64.wrap ((nn:Int)-(start:Int))=(fin:Int)
 c5:mid<fin↔start<m
 c6:start<mid↔m<fin
theorem Nums.wraps {n x1 x2 y1 y2 a m b mid nn lo hi p start fin:Nat} (N:Nums n x1 x2 y1 y2 a m b mid nn lo hi p start fin):Wraps x1 x2 y1 y2 a m b mid nn p start fin:=by
 obtain⟨hX1,hY1,hb,hmid,hnn,hp,hfin,hm,hbb,hbn,hst,hfi⟩:=N
 refine⟨qp1 hm (by omega),by omega,qp1 hbb (by omega),by omega,qph (by omega),qzw (by omega),q49 (a+b) mid hmid,qzl (by omega),?_,q09 hp (by omega),qp1 hfin (by omega),by omega,by omega⟩
 rw[hnn];exact qph (by omega)
set_option maxHeartbeats 8000000 in
theorem qanf (x1 x2 y1 y2 a m b mid nn lo hi p start fin:Nat) (D D2 D3 D4:List Evt) (N:Nums n x1 x2 y1 y2 a m b mid nn lo hi p start fin) (hlo:mid<m∧nn=b+lo∧hi=mid∨¬mid<m∧lo=a∧hi=m)
  (hfind : ∃y,itB (exec (evL T) itL none qa5) (qu [0,1,2,3,4,18,19,20,21,22] true 1) ⟨[(0,.sl 0 g 0 n cl),(1,(ii a)),(2,(ii m)),(3,(ii b)),(4,(.fn (.func qe) [] [])),(18,(ii mid)),(19,(ii nn)),(20,(ii lo)),(21,(ii hi)),(22,(ii p))],[]⟩ [.row 6 ((D).map Evt.r) g]=some y ∧
   (y.1 = .exit 8∧y.2.1.marks=[]∧y.2.2=[.row 6 ((D).map Evt.r) g]∧wh y.2.1.vars 0=some (.sl 0 g 0 n cl)∧wh y.2.1.vars 1=some (ii a)∧wh y.2.1.vars 2=some (ii m)∧wh y.2.1.vars 3=some (ii b)∧wh y.2.1.vars 4=some (.fn (.func qe) [] [])∧wh y.2.1.vars 18=some (ii mid) ∧
    wh y.2.1.vars 19=some (ii nn)∧wh y.2.1.vars 20=some (ii start)))
  (s1:start<m→m<fin→(evL T).call qa0 [.sl 0 g 0 n cl,(ii start),(ii m),(ii fin),(.fn (.func qe) [] [])] [.row 6 ((D).map Evt.r) g]=some (.tup [],[.row 6 ((D2).map Evt.r) g])) (n1:¬(start<m∧m<fin)→D2=D)
  (s2:a<start→start<mid→qyd g cl n a start mid D2 D3) (n2:¬(a<start∧start<mid)→D3=D2)
  (s3:mid<fin→fin<b→qyd g cl n mid fin b D3 D4) (n3:¬(mid<fin∧fin<b)→D4=D3):qyd g cl n a m b D D4:=by
 obtain⟨⟨y,e,σ⟩,k1,k2,k3,k4,k5,k6,k7,k8,k9,k10,k11,k12⟩:=hfind
 obtain⟨w1,h1,w2,h2,w3,w4,w5,w6,w7,w8,w9,c5,c6⟩:=N.wraps
 simp only at k1 k2 k3 k4 k5 k6 k7 k8 k9 k10 k11 k12
 subst k2;subst k4
 unfold qyd at *
 rw[qd qeq qek]
 have g5:mid<m→IntKind.i64.wrap ((nn:Int)-(b:Int))=(lo:Int):=fun g=>by
  rcases hlo with ⟨_,g2,_⟩|⟨g1,_⟩
  ·exact qp1 g2 (by have:=N.hnn;have:=N.hmid;have:=N.hb;have:=N.hbn;have:=N.hm;have:=N.hbb;omega)
  ·exact absurd g g1
 have l1:¬mid<m→lo=a:=fun g=>hlo.elim (fun h=>absurd h.1 g) fun h=>h.2.1
 have l2:¬mid<m→hi=m:=fun g=>hlo.elim (fun h=>absurd h.1 g) fun h=>h.2.2
 have l3:mid<m→hi=mid:=fun g=>hlo.elim (fun h=>h.2.2) fun h=>absurd g h.1
 clear hlo N
 rcases Classical.em (start<m)with d1|d1<;>rcases Classical.em (m<fin)with d2|d2<;>rcases Classical.em (a<start)with d3|d3<;>rcases Classical.em (fin<b)with d4|d4
 all_goals
  try (have r:=n1 (by first|exact fun h=>d1 h.1|exact fun h=>d2 h.2);subst r)
  try (have r:=n2 (by first|exact fun h=>d3 h.1|exact fun h=>d2 (c6.1 h.2));subst r)
  try (have r:=n3 (by first|exact fun h=>d4 h.2|exact fun h=>d1 (c5.1 h.1));subst r)
  try replace s1:=s1 d1 d2
  try replace s2:=s2 d3 (c6.2 d2)
  try replace s3:=s3 (c5.2 d1) d4
  rcases Classical.em (mid<m)with g1|g1
  ·have g:=g5 g1
   have l:=l3 g1
   subst l
   simp only[qa3,w1,w2,w3,w4,w5,w6,w7,w8,w9,h1,h2,gt_iff_lt,Int.ofNat_lt,g1,g,k1,k3,k5,k6,k7,k8,k9,k10,k11,k12,c5,c6,d1,d2,d3,d4,s1,s2,s3,qh,wg,qk,wo,zgy,↓qc,↓qq,↓we,wf,wc,wd]
  ·have l:=l1 g1
   have l':=l2 g1
   subst l;subst l'
   simp only[qa3,w1,w2,w3,w4,w5,w6,w7,w8,w9,h1,h2,gt_iff_lt,Int.ofNat_lt,g1,k1,k3,k5,k6,k7,k8,k9,k10,k11,k12,c5,c6,d1,d2,d3,d4,s1,s2,s3,qh,wg,qk,wo,zgy,↓qc,↓qq,↓we,wf,wc,wd]
end
open Go.Ev
set_option maxRecDepth 10000
section
variable (g:Nat) (cl:Bool) (n:Nat)
theorem qacf (hb:n<2^61) : ∀(k:Nat) (P X Y Q:List Evt),X.length+Y.length≤k→0<X.length→0<Y.length→X.Pairwise leE→Y.Pairwise leE→n=(P++(X++(Y++Q))).length→qb0 (P++(X++(Y++Q))) →
  ∀a m b:Nat,a=P.length→m=a+X.length→b=m+Y.length → ∃Z:List Evt,Z.Perm (X++Y)∧Z.Pairwise leE∧qyd g cl n a m b (P++(X++(Y++Q))) (P++(Z++Q)):=by
 intro k
 induction k with
 |zero=>intro P X Y Q h1 h2 h3;omega
 |succ k ih=>
  intro P X Y Q hk hX0 hY0 hX hY hn hkeys a m b ha hm hbb
  by_cases hx:X.length=1
  ·obtain⟨x,rfl⟩:=List.length_eq_one_iff.1 hx
   simp only[zgm,zgl,zga,zgb]at hn hkeys hm⊢
   exact qall g cl n P Y Q x hY hY0 hn hb hkeys a m b ha hm hbb
  by_cases hy:Y.length=1
  ·obtain⟨y,rfl⟩:=List.length_eq_one_iff.1 hy
   simp only[zgm,zgl,zga,zgb]at hn hkeys hbb⊢
   exact qamo g cl n P X Q y hX (by omega) hn hb hkeys a m b ha hm hbb
  have hlen:n=P.length+(X.length+(Y.length+Q.length)):=by rw[hn];simp
  obtain⟨mid,hmid⟩ : ∃mid,mid=(a+b) / 2:=⟨_,rfl⟩
  obtain⟨nn,hnn⟩ : ∃nn,nn=mid+m:=⟨_,rfl⟩
  obtain⟨p,hp⟩ : ∃p,nn=p+1:=⟨nn-1,by omega⟩
  obtain⟨lo,hi,hlo⟩ : ∃lo hi,mid<m∧nn=b+lo∧hi=mid∨¬mid<m∧lo=a∧hi=m:=by
   by_cases c:mid<m
   ·exact⟨nn-b,mid,.inl ⟨c,by omega,rfl⟩⟩
   ·exact⟨a,m,.inr ⟨c,rfl,rfl⟩⟩
  obtain⟨y,f1,start,f2,f3,f4,f5,f6,f7,f8,f9,f10,f11,f12,f13,f14,f15,f16⟩:=qajn g cl n (P++(X++(Y++Q))) hn hb hkeys a m b mid nn p lo hi hp (by omega) (fun c h1 h2=>by omega) (by omega) (by omega)
  obtain⟨fin,hfin⟩ : ∃fin,nn=start+fin:=⟨nn-start,by omega⟩
  obtain⟨X1,X2,rfl,hX1⟩ : ∃X1 X2,X=X1++X2∧X1.length=start-a:=⟨X.take (start-a),X.drop (start-a),(wq _ _).symm,by simp;omega⟩
  obtain⟨Y1,Y2,rfl,hY1⟩ : ∃Y1 Y2,Y=Y1++Y2∧Y1.length=fin-m:=⟨Y.take (fin-m),Y.drop (fin-m),(wq _ _).symm,by simp;omega⟩
  simp only[zgp]at hk hX0 hY0 hx hy hm hbb hlen
  obtain⟨x1,x2,x3⟩:=wr.1 hX
  obtain⟨y1,y2,y3⟩:=wr.1 hY
  have hst:start=a+X1.length:=by omega
  have hfi:fin=m+Y1.length:=by omega
  have N:Nums n X1.length X2.length Y1.length Y2.length a m b mid nn lo hi p start fin:=⟨by omega,by omega,hb,hmid,hnn,hp,hfin,hm,hbb,by omega,hst,hfi⟩
  simp only[wl]at f1 f4 f15 f16 hn hkeys⊢
  have hk2:qb0 (P++(X1++(Y1++(X2++(Y2++Q))))):=by
   intro z hz;refine hkeys z ?_
   simp only[wz]at hz⊢
   rcases hz with h|h|h|h|h|h
   ·exact .inl h
   ·exact .inr (.inl h)
   ·exact .inr (.inr (.inr (.inl h)))
   ·exact .inr (.inr (.inl h))
   ·exact .inr (.inr (.inr (.inr (.inl h))))
   ·exact .inr (.inr (.inr (.inr (.inr h))))
  obtain⟨Z1,p1,q1,s2,n2⟩ : ∃Z1:List Evt,Z1.Perm (X1++Y1)∧Z1.Pairwise leE∧(a<start→start<mid→qyd g cl n a start mid (P++(X1++(Y1++(X2++(Y2++Q))))) (P++(Z1++(X2++(Y2++Q)))))∧(¬(a<start∧start<mid)→P++(Z1++(X2++(Y2++Q)))=P++(X1++(Y1++(X2++(Y2++Q))))):=by
   by_cases c:a<start∧start<mid
   ·obtain⟨Z,p1,q1,r1⟩:=ih P X1 Y1 (X2++(Y2++Q)) (by omega) (by omega) (by omega) x1 y1 (by rw[hlen];simp;omega) hk2 a start mid ha hst (by omega)
    exact⟨Z,p1,q1,fun _ _=>r1,fun h=>absurd c h⟩
   ·refine⟨X1++Y1,.refl _,?_,fun h1 h2=>absurd ⟨h1,h2⟩ c,fun _=>by simp⟩
    by_cases c1:a<start
    ·rw[show Y1=[] from wj (by omega),List.append_nil];exact x1
    ·rw[show X1=[] from wj (by omega),List.nil_append];exact y1
  have lz:=p1.length_eq
  rw[wk]at lz
  have hk3:qb0 (P++Z1++(X2++(Y2++Q))):=by
   intro z hz;refine hk2 z ?_
   have:=p1.mem_iff (a:=z)
   simp only[wz]at hz this⊢
   rcases hz with (h|h)|h
   ·exact .inl h
   ·rcases this.1 h with h|h
    ·exact .inr (.inl h)
    ·exact .inr (.inr (.inl h))
   ·exact .inr (.inr (.inr h))
  obtain⟨Z2,p2,q2,s3,n3⟩ : ∃Z2:List Evt,Z2.Perm (X2++Y2)∧Z2.Pairwise leE∧(mid<fin→fin<b→qyd g cl n mid fin b (P++(Z1++(X2++(Y2++Q)))) (P++(Z1++(Z2++Q))))∧(¬(mid<fin∧fin<b)→P++(Z1++(Z2++Q))=P++(Z1++(X2++(Y2++Q)))):=by
   by_cases c:mid<fin∧fin<b
   ·obtain⟨Z,p2,q2,r2⟩:=ih (P++Z1) X2 Y2 Q (by omega) (by omega) (by omega) x2 y2 (by rw[hlen];simp;omega) hk3 mid fin b (by simp;omega) (by omega) (by omega)
    simp only[wl]at r2
    exact⟨Z,p2,q2,fun _ _=>r2,fun h=>absurd c h⟩
   ·refine⟨X2++Y2,.refl _,?_,fun h1 h2=>absurd ⟨h1,h2⟩ c,fun _=>by simp⟩
    by_cases c1:mid<fin
    ·rw[show Y2=[] from wj (by omega),List.append_nil];exact x2
    ·rw[show X2=[] from wj (by omega),List.nil_append];exact y2
  have ms:=qajx qqi hX hY (Z1:=Z1) (Z2:=Z2) ?_ ?_ p1 p2 q1 q2
  ·refine⟨Z1++Z2,by simpa using ms.1,ms.2,?_⟩
   simp only[wl]
   refine qanf g cl n X1.length X2.length Y1.length Y2.length a m b mid nn lo hi p start fin _ _ _ _ N hlo ⟨y,f1,f2,f3,f4,f5,f6,f7,f8,f9,f10,f11,f12⟩ ?_ ?_ s2 n2 s3 n3
   ·intro c1 c2
    have r:=qamy g cl n (P++X1) X2 Y1 (Y2++Q) (by omega) (by omega) (by rw[hlen];simp;omega) hb start m fin (by simp;omega) (by omega) (by omega)
    simpa only[wl]using r
   ·intro c
    by_cases c1:start<m
    ·rw[show Y1=[] from wj (by omega)];simp
    ·rw[show X2=[] from wj (by omega)];simp
  ·intro u v hu hv
   have hlt:X1.length-1<X1.length:=(zei.1 hu).1
   have hlt2:0<Y2.length:=(zei.1 hv).1
   rcases f15 with h|h
   ·omega
   ·refine h u v ?_ ?_
    ·rw[←hu];exact q70 (L:=P) (X:=X1) (M:=X2++(Y1++(Y2++Q))) rfl hlt (by omega)
    ·rw[←hv];exact q70 (L:=P++(X1++(X2++Y1))) (X:=Y2) (M:=Q) (by simp) hlt2 (by simp;omega)
  ·intro u v hu hv
   have hlt:Y1.length-1<Y1.length:=(zei.1 hu).1
   have hlt2:0<X2.length:=(zei.1 hv).1
   rcases f16 with h|h
   ·omega
   ·refine h u v ?_ ?_
    ·rw[←hu];exact q70 (L:=P++(X1++X2)) (X:=Y1) (M:=Y2++Q) (by simp) hlt (by simp;omega)
    ·rw[←hv];exact q70 (L:=P++X1) (X:=X2) (M:=Y1++(Y2++Q)) (by simp) hlt2 (by simp;omega)
end
open Go.Ev
set_option maxRecDepth 10000
theorem qakt {a:Nat} (h:a<2^61):IntKind.i64.wrap (2*(a:Int))=((2*a:Nat):Int):=by rw[qi (by omega) (by omega)];omega
theorem qam1 {a:Nat} (h:a<2^61):IntKind.i64.wrap ((a:Int)*2)=((2*a:Nat):Int):=by rw[qi (by omega) (by omega)];omega
section
variable (g:Nat) (cl:Bool) (n:Nat)
theorem qanc (l:List Evt) (hn:n=l.length) (hb:n<2^58) (hk:qb0 l) :
  ∃y,itB (exec (evL T) itL none qb1) (qu [0,1,2,6,7,8] true 1) ⟨[(0,.sl 0 g 0 n cl),(1,(ii n)),(2,(.fn (.func qe) [] [])),(6,(ii 20)),(7,(ii 0)),(8,(ii 20))],[]⟩ [.row 6 ((l).map Evt.r) g]=some y ∧
   ∃a:Nat,y.1 = .exit 0∧y.2.1.marks=[]∧wh y.2.1.vars 0=some (.sl 0 g 0 n cl)∧wh y.2.1.vars 1=some (ii n)∧wh y.2.1.vars 2=some (.fn (.func qe) [] [])∧wh y.2.1.vars 6=some (ii 20)∧wh y.2.1.vars 7=some (ii a) ∧
    ∃Dn Rs:List Evt,y.2.2=[.row 6 ((Dn++Rs).map Evt.r) g]∧a=Dn.length∧(Dn++Rs).Perm l∧Rs.length<20 ∧ ∀t,Blk leE 20 t→Blk leE 20 (Dn++t):=by
 have key:=qjo (f:=exec (evL T) itL none qb1) (s:=qu [0,1,2,6,7,8] true 1) (τ:=List Evt×Nat)
  (fun s=>⟨[(0,.sl 0 g 0 n cl),(1,(ii n)),(2,(.fn (.func qe) [] [])),(6,(ii 20)),(7,(ii s.2)),(8,(ii ((s.2+20:Nat))))],[]⟩) (fun s=>[.row 6 ((s.1).map Evt.r) g]) (fun s=>n+20-s.2)
  (fun s => ∃Dn Rs,s.1=Dn++Rs∧s.2=Dn.length∧(Dn++Rs).Perm l ∧ ∀t,Blk leE 20 t→Blk leE 20 (Dn++t))
  (fun y => ∃a:Nat,y.1 = .exit 0∧y.2.1.marks=[]∧wh y.2.1.vars 0=some (.sl 0 g 0 n cl)∧wh y.2.1.vars 1=some (ii n)∧wh y.2.1.vars 2=some (.fn (.func qe) [] [])∧wh y.2.1.vars 6=some (ii 20)∧wh y.2.1.vars 7=some (ii a) ∧
    ∃Dn Rs:List Evt,y.2.2=[.row 6 ((Dn++Rs).map Evt.r) g]∧a=Dn.length∧(Dn++Rs).Perm l∧Rs.length<20 ∧ ∀t,Blk leE 20 t→Blk leE 20 (Dn++t)) ?_ (l,0) ⟨[],l,rfl,rfl,.refl _,fun t h=>h⟩
 ·exact key
 rintro⟨D,a⟩ ⟨Dn,Rs,hD,ha,hp,hB⟩
 simp only at hD ha⊢
 have hl:=hp.length_eq
 rw[wk]at hl
 by_cases c:a+20≤n
 case neg=>
  have h1:¬((a+20:Nat):Int)≤(n:Int):=by omega
  right
  simp only[qb1,h1,wg,zgy,↓qc,↓we,wc,wd]
  exact⟨_,rfl,a,rfl,rfl,rfl,rfl,rfl,rfl,rfl,Dn,Rs,by rw[hD],ha,hp,by omega,hB⟩
 have h1:((a+20:Nat):Int)≤(n:Int):=by omega
 obtain⟨S,Q,rfl,hS⟩ : ∃S Q,Rs=S++Q∧S.length=20:=⟨Rs.take 20,Rs.drop 20,(wq _ _).symm,by simp;omega⟩
 rw[wk]at hl
 have hkD:qb0 (Dn++(S++Q)):=hk.perm hp
 obtain⟨S',p1,q1,r1⟩:=q77 g cl n Dn S Q (by simp;omega) (by omega) hkD a (a+20) ha (by omega)
 have w1:IntKind.i64.wrap (((a+20:Nat):Int)+20)=((a+20+20:Nat):Int):=by rw[qi (by omega) (by omega)];omega
 rw[←hD]at r1
 left
 refine⟨(Dn++(S'++Q),a+20),?_,⟨Dn++S',Q,by simp,?_,?_,?_⟩,by simp only;omega⟩
 ·simp only[qb1,h1,w1,r1,qh,wg,wo,zgy,↓qc,↓we,wc,wd]
 ·have:=p1.length_eq;simp;omega
 ·rw[wl];exact(wv Dn (p1.append_right Q)).trans hp
 ·intro t ht
  rw[wl]
  exact hB _ (.more (by rw[p1.length_eq];exact hS) q1 ht)
theorem qanb (l D0:List Evt) (hn:n=l.length) (hb:n<2^58) (hk:qb0 l) (s:Nat) (hs:0<s) (hsn:s<n) (hp0:D0.Perm l) (hB0:Blk leE s D0) :
  ∃y,itB (exec (evL T) itL none qb8) (qu [0,1,2,6,7,8] true 1) ⟨[(0,.sl 0 g 0 n cl),(1,(ii n)),(2,(.fn (.func qe) [] [])),(6,(ii s)),(7,(ii 0)),(8,(ii ((2*s:Nat))))],[]⟩ [.row 6 ((D0).map Evt.r) g]=some y ∧
   ∃a:Nat,y.1 = .exit 4∧y.2.1.marks=[]∧wh y.2.1.vars 0=some (.sl 0 g 0 n cl)∧wh y.2.1.vars 1=some (ii n)∧wh y.2.1.vars 2=some (.fn (.func qe) [] [])∧wh y.2.1.vars 6=some (ii s)∧wh y.2.1.vars 7=some (ii a) ∧
    ∃Dn Rs:List Evt,y.2.2=[.row 6 ((Dn++Rs).map Evt.r) g]∧a=Dn.length∧(Dn++Rs).Perm l∧Rs.length<2*s∧Blk leE s Rs ∧ ∀t,Blk leE (2*s) t→Blk leE (2*s) (Dn++t):=by
 have key:=qjo (f:=exec (evL T) itL none qb8) (s:=qu [0,1,2,6,7,8] true 1) (τ:=List Evt×Nat)
  (fun z=>⟨[(0,.sl 0 g 0 n cl),(1,(ii n)),(2,(.fn (.func qe) [] [])),(6,(ii s)),(7,(ii z.2)),(8,(ii ((z.2+2*s:Nat))))],[]⟩) (fun z=>[.row 6 ((z.1).map Evt.r) g]) (fun z=>n+2*s-z.2)
  (fun z => ∃Dn Rs,z.1=Dn++Rs∧z.2=Dn.length∧(Dn++Rs).Perm l∧Blk leE s Rs ∧ ∀t,Blk leE (2*s) t→Blk leE (2*s) (Dn++t))
  (fun y => ∃a:Nat,y.1 = .exit 4∧y.2.1.marks=[]∧wh y.2.1.vars 0=some (.sl 0 g 0 n cl)∧wh y.2.1.vars 1=some (ii n)∧wh y.2.1.vars 2=some (.fn (.func qe) [] [])∧wh y.2.1.vars 6=some (ii s)∧wh y.2.1.vars 7=some (ii a) ∧
    ∃Dn Rs:List Evt,y.2.2=[.row 6 ((Dn++Rs).map Evt.r) g]∧a=Dn.length∧(Dn++Rs).Perm l∧Rs.length<2*s∧Blk leE s Rs ∧ ∀t,Blk leE (2*s) t→Blk leE (2*s) (Dn++t)) ?_ (D0,0) ⟨[],D0,rfl,rfl,hp0,hB0,fun t h=>h⟩
 ·simp only[zfd]at key;exact key
 rintro⟨D,a⟩ ⟨Dn,Rs,hD,ha,hp,hR,hB⟩
 simp only at hD ha⊢
 have hl:=hp.length_eq
 rw[wk]at hl
 by_cases c:a+2*s≤n
 case neg=>
  have h1:¬((a+2*s:Nat):Int)≤(n:Int):=by omega
  right
  simp only[qb8,h1,wg,zgy,↓qc,↓we,wc,wd]
  exact⟨_,rfl,a,rfl,rfl,rfl,rfl,rfl,rfl,rfl,Dn,Rs,by rw[hD],ha,hp,by omega,hR,hB⟩
 have h1:((a+2*s:Nat):Int)≤(n:Int):=by omega
 obtain⟨X,Y,Q,rfl,hX,hY,qX,qY,hQ⟩ : ∃X Y Q,Rs=X++(Y++Q)∧X.length=s∧Y.length=s∧X.Pairwise leE∧Y.Pairwise leE∧Blk leE s Q:=by
  obtain⟨X,R1,rfl,h2,h3,h4⟩:=hR.split (by omega)
  rw[wk]at hl
  by_cases c2:R1.length≤s
  ·exact⟨X,R1,[],by simp,h2,by omega,h3,h4.sorted c2,.nil⟩
  ·obtain⟨Y,Q,rfl,h5,h6,h7⟩:=h4.split (by omega)
   exact⟨X,Y,Q,rfl,h2,h5,h3,h6,h7⟩
 rw[wk,wk]at hl
 have hkD:qb0 (Dn++(X++(Y++Q))):=hk.perm hp
 obtain⟨Z,p1,q1,r1⟩:=qacf g cl n (by omega) _ Dn X Y Q (ww _) (by omega) (by omega) qX qY (by simp;omega) hkD a (a+s) (a+2*s) ha (by omega) (by omega)
 have w1:IntKind.i64.wrap ((a:Int)+(s:Int))=((a+s:Nat):Int):=qph (by omega)
 have w2:IntKind.i64.wrap (2*(s:Int))=((2*s:Nat):Int):=qakt (by omega)
 have w3:IntKind.i64.wrap (((a+2*s:Nat):Int)+((2*s:Nat):Int))=((a+2*s+2*s:Nat):Int):=qph (by omega)
 unfold qyd at r1
 rw[←hD]at r1
 have hz:=p1.length_eq
 rw[wk]at hz
 left
 refine⟨(Dn++(Z++Q),a+2*s),?_,⟨Dn++Z,Q,by simp,?_,?_,hQ,?_⟩,by simp only;omega⟩
 ·simp only[qb8,h1,w1,w2,w3,r1,qh,wg,wo,zgy,↓qc,↓we,wc,wd]
 ·simp;omega
 ·rw[wl]
  refine(wv Dn (p1.append_right Q)).trans ?_
  rw[wl];exact hp
 ·intro t ht
  rw[wl]
  exact hB _ (.more (by omega) q1 ht)
theorem qany (l D0:List Evt) (hn:n=l.length) (hb:n<2^58) (hk:qb0 l) (hp0:D0.Perm l) (hB0:Blk leE 20 D0) :
  ∃y,itB (exec (evL T) itL none qbf) (qu [0,1,2,6] true 1) ⟨[(0,.sl 0 g 0 n cl),(1,(ii n)),(2,(.fn (.func qe) [] [])),(6,(ii 20))],[]⟩ [.row 6 ((D0).map Evt.r) g]=some y ∧
   (y.1 = .exit 2∧y.2.1.marks=[] ∧ ∃l':List Evt,y.2.2=[.row 6 ((l').map Evt.r) g]∧l'.Perm l∧l'.Pairwise leE):=by
 have key:=qjo (f:=exec (evL T) itL none qbf) (s:=qu [0,1,2,6] true 1) (τ:=List Evt×Nat)
  (fun z=>⟨[(0,.sl 0 g 0 n cl),(1,(ii n)),(2,(.fn (.func qe) [] [])),(6,(ii z.2))],[]⟩) (fun z=>[.row 6 ((z.1).map Evt.r) g]) (fun z=>n-z.2)
  (fun z=>z.1.Perm l∧0<z.2∧Blk leE z.2 z.1)
  (fun y=>y.1 = .exit 2∧y.2.1.marks=[] ∧ ∃l':List Evt,y.2.2=[.row 6 ((l').map Evt.r) g]∧l'.Perm l∧l'.Pairwise leE) ?_ (D0,20) ⟨hp0,by simp,hB0⟩
 ·exact key
 rintro⟨D,s⟩ ⟨hp,hs,hB⟩
 simp only at hp hs hB⊢
 have hl:=hp.length_eq
 by_cases c:s<n
 case neg=>
  have h1:¬(s:Int)<(n:Int):=by omega
  right
  simp only[qbf,h1,wg,zgy,↓qc,↓we,wc,wd]
  exact⟨_,rfl,rfl,rfl,D,rfl,hp,hB.sorted (by omega)⟩
 have h1:(s:Int)<(n:Int):=by omega
 obtain⟨⟨y,e,σ⟩,k1,a,k2,k3,k4,k5,k6,k7,k8,Dn,Rs,k9,k10,k11,k12,k13,k14⟩:=qanb g cl n l D hn hb hk s hs c hp hB
 simp only at k1 k2 k3 k4 k5 k6 k7 k8 k9
 subst k2;subst k9
 have hl2:=k11.length_eq
 rw[wk]at hl2
 have w1:IntKind.i64.wrap ((a:Int)+(s:Int))=((a+s:Nat):Int):=qph (by omega)
 have w2:IntKind.i64.wrap (2*(s:Int))=((2*s:Nat):Int):=qakt (by omega)
 have w3:IntKind.i64.wrap ((s:Int)*2)=((2*s:Nat):Int):=qam1 (by omega)
 left
 by_cases c2:a+s<n
 ·have h2:((a+s:Nat):Int)<(n:Int):=by omega
  obtain⟨X,Y,rfl,hX,qX,hY⟩:=k13.split (by omega)
  rw[wk]at hl2 k12
  have hkD:qb0 (Dn++(X++(Y++[]))):=by rw[List.append_nil];exact hk.perm k11
  obtain⟨Z,p1,q1,r1⟩:=qacf g cl n (by omega) _ Dn X Y [] (ww _) (by omega) (by omega) qX (hY.sorted (by omega)) (by simp;omega) hkD a (a+s) n k10 (by omega) (by omega)
  unfold qyd at r1
  simp only[zgn]at r1
  have hz:=p1.length_eq
  rw[wk]at hz
  refine⟨(Dn++Z,2*s),?_,⟨(wv Dn p1).trans k11,by simp only;omega,k14 _ (.last (by omega) q1)⟩,by simp only;omega⟩
  simp only[qbf,h1,h2,w1,w2,w3,k1,k3,k4,k5,k6,k7,k8,r1,qh,wg,wo,zgy,↓qc,↓qq,↓we,wc,wd]
 ·have h2:¬((a+s:Nat):Int)<(n:Int):=by omega
  refine⟨(Dn++Rs,2*s),?_,⟨k11,by simp only;omega,k14 _ (.last (by omega) (k13.sorted (by omega)))⟩,by simp only;omega⟩
  simp only[qbf,h1,h2,w1,w2,w3,k1,k3,k4,k5,k6,k7,k8,qh,wg,wo,zgy,↓qc,↓qq,↓we,wc,wd]
theorem qape (l:List Evt) (hn:n=l.length) (hb:n<2^58) (hk:qb0 l) :
  ∃l':List Evt,l'.Perm l∧l'.Pairwise leE∧(evL T).call qa6 [.sl 0 g 0 n cl,(ii n),(.fn (.func qe) [] [])] [.row 6 ((l).map Evt.r) g]=some (.tup [],[.row 6 ((l').map Evt.r) g]):=by
 obtain⟨⟨y,e,σ⟩,k1,a,k2,k3,k4,k5,k6,k7,k8,Dn,Rs,k9,k10,k11,k12,k13⟩:=qanc g cl n l hn hb hk
 simp only at k1 k2 k3 k4 k5 k6 k7 k8 k9
 subst k2;subst k9
 have hl:=k11.length_eq
 rw[wk]at hl
 obtain⟨R',p1,q1,r1⟩:=q77 g cl n Dn Rs [] (by simp;omega) (by omega) (by rw[List.append_nil];exact hk.perm k11) a n k10 (by omega)
 simp only[zgn]at r1
 obtain⟨⟨y',e',σ'⟩,l1,l2,l3,l',l4,l5,l6⟩:=qany g cl n l (Dn++R') hn hb hk ((wv Dn p1).trans k11) (k13 _ (.last (by rw[p1.length_eq];omega) q1))
 simp only at l1 l2 l3 l4
 subst l2;subst l4
 refine⟨l',l5,l6,?_⟩
 rw[qd qok qn7]
 simp only[qdw,k1,k3,k4,k5,k6,k7,k8,r1,l1,l3,qh,wg,qk,wo,zgy,↓qc,↓qq,↓we,wf,wc,wd]
theorem qafc (l:List Evt) (hn:n=l.length) (hb:n<2^58) (hk:qb0 l) :
  ∃l':List Evt,l'.Perm l∧l'.Pairwise leE∧(evL T).call qad [.sl 0 g 0 n cl,(.fn (.func qe) [] [])] [.row 6 ((l).map Evt.r) g]=some (.tup [],[.row 6 ((l').map Evt.r) g]):=by
 obtain⟨l',h1,h2,h3⟩:=qape g cl n l hn hb hk
 refine⟨l',h1,h2,?_⟩
 rw[qd qi7 qix]
 simp only[qbk,h3,qh,wg,qk,wo,zgy,↓qc,↓we,wf,wc,wd]
end
open Go.Ev
set_option maxRecDepth 10000
def sortL (l:List Evt):List Evt:=l.mergeSort (fun a b=>decide (qxm a b≤0))
def qys (l:List Evt):Prop:=l.Pairwise (fun a b=>¬qxm a b=0)
theorem qc8 (l:List Evt):(sortL l).Perm l:=List.mergeSort_perm _ _
theorem qg5 (l:List Evt):(sortL l).Pairwise leE:=by
 have:=List.pairwise_mergeSort (le:=fun a b=>decide (qxm a b≤0)) (fun a b c h1 h2=>by simp only[decide_eq_true_eq]at h1 h2 ⊢;exact qqi a b c h1 h2) (fun a b=>by
  have:=qu6 a b
  by_cases h:qxm a b≤0
  ·simp[h]
  ·have:qxm b a≤0:=by omega
   simp[this]) l
 exact this.imp (fun h=>of_decide_eq_true h)
theorem qys.eq {l:List Evt} (h:qys l) {a b:Evt} (ha:a∈l) (hb:b∈l) (hc:qxm a b=0):a=b:=by
 obtain⟨i,hi⟩:=wA.1 ha
 obtain⟨j,hj⟩:=wA.1 hb
 obtain⟨hi',rfl⟩:=zei.1 hi
 obtain⟨hj',rfl⟩:=zei.1 hj
 rw[qys,List.pairwise_iff_getElem]at h
 rcases Nat.lt_trichotomy i j with c|c|c
 ·exact absurd hc (h i j hi' hj' c)
 ·subst c;rfl
 ·exact absurd (by rw[qu6];omega) (h j i hj' hi' c)
theorem qpp {l l':List Evt} (hd:qys l) (hp:l'.Perm l) (hs:l'.Pairwise leE):l'=sortL l:=by
 refine List.Perm.eq_of_pairwise (le:=leE) (fun a b ha hb h1 h2 => ?_) hs (qg5 l) (hp.trans (qc8 l).symm)
 refine hd.eq (hp.mem_iff.1 ha) ((qc8 l).mem_iff.1 hb) ?_
 have:=qu6 a b
 unfold leE at h1 h2;omega
theorem qys.perm {l l':List Evt} (h:qys l) (p:l'.Perm l):qys l':=(p.pairwise_iff (fun {x y} hxy hyx=>hxy (by rw[qu6];omega))).2 h
theorem qxq (l:List Evt) (c:Bool) (h:l.length≤1000000):(evL T).call qay [(.fsl ((l).map Evt.r) c)] []=some (.sl 0 0 0 l.length false,[.row 6 (l.map Evt.r) 0]):=by
 have h':l.length*64≤140737488355328:=by omega
 rw[q6q ql9]
 simp only[qu0,qh,qgi,h',wg,zgy,↓we,wF,Nat.reducePow]
theorem q3b (l:List Evt) (c:Bool) (h:l.length≤1000000) (hk:qb0 l) : ∃l':List Evt,l'.Perm l∧l'.Pairwise leE∧qm (evL T) qef [(.fsl ((l).map Evt.r) c)]=some (.fsl ((l').map Evt.r) false):=by
 have hcl:=qxq l c h
 obtain⟨l',h1,h2,h3⟩:=qafc 0 false l.length l rfl (by omega) hk
 refine⟨l',h1,h2,?_⟩
 have hlen:=h1.length_eq
 rw[qm,qd q1m qzm]
 rw[←hlen]at hcl h3
 simp only[qna,hcl,h3,qh,wg,q3y,qk,zgy,↓qc,↓we,wc,wF,wd]
theorem qsa (l:List Evt) (c:Bool) (h:l.length≤1000000) (hk:qb0 l) (hd:qys l):qm (evL T) qef [(.fsl ((l).map Evt.r) c)]=some (.fsl ((sortL l).map Evt.r) false):=by
 obtain⟨l',h1,h2,h3⟩:=q3b l c h hk
 rw[←qpp hd h1 h2];exact h3
theorem qqt (x y:Evt) (hx:x.key.length≤9223372036854775807) (hy:y.key.length≤9223372036854775807):qm (evL T) qdt [(.agg [(ii x.time),(.fsl ((x.key).map qy) false),(ii x.lp),(ii x.kind),(ii x.proc),(ii x.arg)]),(.agg [(ii y.time),(.fsl ((y.key).map qy) false),(ii y.lp),(ii y.kind),(ii y.proc),(ii y.arg)])]=some (ii (qxm x y)):=by
 obtain⟨xt,xk,xl,xi,xp,xa⟩:=x
 obtain⟨yt,yk,yl,yi,yp,ya⟩:=y
 have hc:=qr3 xt yt
 have hk:=q2f xk yk false false hx hy
 have hz:=(qn2 xt yt).2.1
 rw[qm,qd qyf qw2]
 by_cases h:xt=yt
 ·subst h
  have h0:qwh xt xt=0:=hz.2 rfl
  simp only[qhz,qxm,h0,hk,qg,wg,qb,wm,wn,qk,ne_eq,zgy,↓qc,↓we,wf,wc,wd]
 ·have h0:¬qwh xt yt=0:=fun e=>h (hz.1 e)
  simp only[qhz,qxm,h0,h,hc,wg,qb,wm,wn,qk,ne_eq,zgy,↓qc,↓we,wf,wc,wd]
open Go.Ev
set_option maxRecDepth 10000
section
variable (l:List Evt) (c:Bool)
end
open Go.Ev
set_option maxRecDepth 10000
def qac6:Evt:=⟨0,[],0,0,0,0⟩
def qqn (l:List Evt) (b:Int):List Evt×Evt×Bool:=match l with
 | []=>([],qac6,false)
 |x::r=>if x.time<b then (r,x,true)else (x::r,qac6,false)
theorem qaa2 (l:List Evt) (c:Bool) (b:Int) (hl:l.length≤1000000) : ∃c':Bool,qm (evL T) qk5 [(.fsl ((l).map Evt.r) c),(ii b)]=some (.tup [(.fsl (((qqn l b).1).map Evt.r) c'),(.agg [(ii ((qqn l b).2.1.time)),(.fsl (((qqn l b).2.1.key).map qy) false),(ii ((qqn l b).2.1.lp)),(ii ((qqn l b).2.1.kind)),(ii ((qqn l b).2.1.proc)),(ii ((qqn l b).2.1.arg))]),(bb ((qqn l b).2.2))]):=by
 rw[qm,qd q8q q6w]
 cases l with
 |nil=>
  refine⟨c,?_⟩
  simp only[qm4,qqn,qac6,List.map_nil,wu,wg,Ev.stP,qb,wm,wn,qk,ne_eq,zgy,↓qc,↓we,wf,wc,wd]
  try rfl
 |cons x r=>
  have hcl:=qxq r c (by simp at hl;omega)
  have h1:(1:Int)≤((r.length+1:Nat):Int):=by omega
  have htk:(r.map Evt.r).take r.length=r.map Evt.r:=ztl (by simp)
  obtain⟨xt,xk,xl,xi,xp,xa⟩:=x
  have h0:((r.length+1:Nat):Int)>0:=by omega
  by_cases h:xt<b
  ·refine⟨false,?_⟩
   simp only[qm4,qqn,zgr,wD,Evt.r,h0,h1,h,hcl,htk,Int.le_refl,wy,imp_self,qg,qh,qgi,wg,Ev.stP,q3y,qb,wm,wn,qk,ne_eq,zgy,↓qc,↓we,wf,wc,wF,Int.reduceLE,Int.reduceToNat,wd]
   try rfl
  ·refine⟨c,?_⟩
   simp only[qm4,qqn,qac6,wD,Evt.r,h0,h,qg,qh,wg,Ev.stP,qb,wm,wn,qk,ne_eq,zgy,↓qc,↓we,wf,wc,Int.reduceLE,Int.reduceToNat,wd]
   try rfl
theorem qae8 (l:List Evt) (c:Bool) (b:Int) (hl:l.length≤1000000) : ∃c':Bool,qm (evL T) qnt [(.fsl ((l).map Evt.r) c),(ii b)]=some (.tup [(.fsl (((qqn l b).1).map Evt.r) c'),(.agg [(ii ((qqn l b).2.1.time)),(.fsl (((qqn l b).2.1.key).map qy) false),(ii ((qqn l b).2.1.lp)),(ii ((qqn l b).2.1.kind)),(ii ((qqn l b).2.1.proc)),(ii ((qqn l b).2.1.arg))]),(bb ((qqn l b).2.2))]):=by
 rw[qm,qd qadv qaa5]
 cases l with
 |nil=>
  refine⟨c,?_⟩
  simp only[qpq,qqn,qac6,List.map_nil,wg,Ev.stP,qb,wm,wn,qk,ne_eq,zgy,↓qc,↓we,wf,wc,wd]
  try rfl
 |cons x r=>
  have h1:(1:Int)≤((r.length+1:Nat):Int):=by omega
  have hb:(0+r.length)*64≤140737488355328:=by simp at hl;omega
  have hb':r.length*64≤140737488355328:=by simp at hl;omega
  have htk:(r.map Evt.r).take r.length=r.map Evt.r:=ztl (by simp)
  obtain⟨xt,xk,xl,xi,xp,xa⟩:=x
  have h0:¬((r.length+1:Nat):Int)=0:=by omega
  by_cases h:xt<b
  ·refine⟨false,?_⟩
   have h':¬xt≥b:=by omega
   simp only[qpq,qqn,zgr,wD,Evt.r,h0,h1,h,h',hb',htk,Int.le_refl,wy,imp_self,qg,qh,qgi,wg,Ev.stP,qb,qaw,wm,wn,qk,ne_eq,zgy,↓qc,↓we,wf,wc,Nat.reduceMul,wF,Nat.reduceLeDiff,Nat.reducePow,Int.reduceLE,Int.reduceToNat,wd]
   try rfl
  ·refine⟨c,?_⟩
   have h':xt≥b:=by omega
   simp only[qpq,qqn,qac6,wD,Evt.r,h0,h,h',qg,qh,wg,Ev.stP,qb,wm,wn,qk,ne_eq,zgy,↓qc,↓we,wf,wc,Int.reduceLE,Int.reduceToNat,wd]
   try rfl
end Go.Proofs.YtpgdfkciinankaaGreat.K
