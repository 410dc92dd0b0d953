/- For every input the statement of this claim returns true: texts of its proof, joined (part 7). -/
import Derived.Test.YtpgdfkciinankaaGreatProg
import Derived.KernelRfl
import Derived.Test.YtpgdfkciinankaaGreatER3
import Derived.Test.YtpgdfkciinankaaGreatGR04
import Derived.Test.YtpgdfkciinankaaGreatSKR
set_option linter.unusedSectionVars false
set_option linter.unusedSimpArgs false
set_option linter.unusedVariables false
namespace Go.Proofs.YtpgdfkciinankaaGreat.K
open Go.Ev
set_option maxRecDepth 100000
theorem qq7:comp Tryz.prog { frz:=[6] } qdo=some qcs:=by kernel_rfl
theorem qx8:comp Tryz.prog { frz:=[5] } qgw=some qe7:=by kernel_rfl
theorem qwp:comp Tryz.prog { frz:=[4],loops:=[([3,4,9,10,11,12,13,15],true)] } qfg=some qfe:=by kernel_rfl
theorem qw6:comp Tryz.prog { frz:=[4],loops:=[([4,9,12,15,16],true)] } qff=some qfd:=by kernel_rfl
theorem qt3:comp Tryz.prog { frz:=[4] } qem=some qcv:=by kernel_rfl
theorem qab9:comp Tryz.prog {  } qhw=some qyp:=by kernel_rfl
theorem qaak:comp Tryz.prog { frz:=[1],loops:=[([1,3],true),([1,4],true)] } qlf=some qjk:=by kernel_rfl
theorem qaa0:comp Tryz.prog { frz:=[1],loops:=[([1,3],true),([1,5],true),([1,5,6],true)] } qld=some qjw:=by kernel_rfl
theorem qagb:comp Tryz.prog { frz:=[1] } qkr=some qz2:=by kernel_rfl
theorem q99:comp Tryz.prog { own:=[5],loops:=[([0,1,5,6],true)] } qei=some qq8:=by kernel_rfl
theorem qaan:comp Tryz.prog {  } qe2=some qre:=by kernel_rfl
theorem qacc:comp Tryz.prog { frz:=[4] } qet=some qth:=by kernel_rfl
theorem q04:comp Tryz.prog { loops:=[([0,1,5],true)] } qdt=some qmb:=by kernel_rfl
theorem q6p:comp Tryz.prog { loops:=[([0,1,5],true)] } qhp=some qkm:=by kernel_rfl
theorem qack:comp Tryz.prog { loops:=[([0,1,5],true)] } qk4=some qtt:=by kernel_rfl
theorem q62:comp Tryz.prog { frz:=[4] } qep=some qot:=by kernel_rfl
theorem qzd:comp Tryz.prog { frz:=[4] } qea=some qkf:=by kernel_rfl
theorem q9o:comp Tryz.prog { loops:=[([0,1,5],true)] } qhi=some qpq:=by kernel_rfl
theorem q3r:comp Tryz.prog { mA:=[16],mI:=[33,41],loops:=[([1,2,8,9],true)] } qe1=some qny:=by kernel_rfl
theorem qac9:comp Tryz.prog { loops:=[([0,1,5],true)] } qmq=some qti:=by kernel_rfl
theorem q4x:comp Tryz.prog { mA:=[4] } qgy=some qlt:=by kernel_rfl
theorem qacf:comp Tryz.prog { frz:=[2],mA:=[15],mI:=[18,21] } qjo=some qoc:=by kernel_rfl
theorem qacs:comp Tryz.prog {  } qmu=some qy3:=by kernel_rfl
theorem qaai:comp Tryz.prog { frz:=[1],loops:=[([1,3],true)] } qla=some qfq:=by kernel_rfl
theorem qaam:comp Tryz.prog { loops:=[([0,1,2,3,9],true),([0,2,3,10],true),([0,3,11],true)] } qk7=some qjr:=by kernel_rfl
theorem qaav:comp Tryz.prog { frz:=[1],loops:=[([1,3,4,5],true),([1,3,4,6],true),([1,3,4,6,7],true)] } qk8=some qie:=by kernel_rfl
theorem q8f:comp Tryz.prog { frz:=[1] } qdr=some qps:=by kernel_rfl
theorem qacn:comp Tryz.prog { frz:=[4,19],loops:=[([1,2,3,4,8,10,11],true)] } qjs=some qto:=by kernel_rfl
theorem q1t:comp Tryz.prog { loops:=[([0,1,5],true)] } qfc=some qhx:=by kernel_rfl
theorem q9r:comp Tryz.prog { frz:=[2,3],loops:=[([2,3,5],true)] } qj4=some qhg:=by kernel_rfl
theorem q6i:comp Tryz.prog {  } qi6=some qoj:=by kernel_rfl
theorem q58:comp Tryz.prog { mA:=[7],topZ:=[12],ownB:=[(12,(3,2))],fillC:=[(10,0)],ice:=[(1,0)],loops:=[([5,18,19],true)] } qi7=some qom:=by kernel_rfl
theorem q0i:comp Tryz.prog { ldK:=[(24,(0,2))],keep:=[(28,(0,(2,1)))] } qev=some qc6:=by kernel_rfl
theorem qlp:comp Tryz.prog { mA:=[24],bad:=true,loops:=[([0,3,9,10,11],true),([6,25,26,27],false)] } qg=some qcq:=by kernel_rfl
theorem q95:comp Tryz.prog { frz:=[1],mA:=[9],ldF:=[10],topZ:=[7],holes:=[1],fillC:=[(9,0)],ownS:=[(7,6)] } qj9=some qpv:=by kernel_rfl
theorem qwf:comp Tryz.prog { mI:=[12,15],loops:=[([0,1],true)] } qee=some qjc:=by kernel_rfl
theorem qt7:comp Tryz.prog {  } qcw=some qf9:=by kernel_rfl
theorem qaa1:comp Tryz.prog { loops:=[([0,3],true)] } qlq=some qlh:=by kernel_rfl
theorem q4i:comp Tryz.prog { frz:=[3] } qh8=some qez:=by kernel_rfl
theorem qww:comp Tryz.prog { frz:=[1],loops:=[([3,32,33,34],true)] } qdk=some qeg:=by kernel_rfl
theorem qsa:comp Tryz.prog { frz:=[1] } qb9=some qg6:=by kernel_rfl
theorem qte:comp Tryz.prog { frz:=[1] } qcl=some qhh:=by kernel_rfl
theorem qv1:comp Tryz.prog { frz:=[1] } qc3=some qif:=by kernel_rfl
theorem qp2:comp Tryz.prog { loops:=[([1,8,9,10],true)] } qb5=some qd7:=by kernel_rfl
theorem q4u:comp Tryz.prog {  } qe0=some qn0:=by kernel_rfl
theorem q61:comp Tryz.prog { frz:=[1],topZ:=[11],loops:=[([3,13,14,15],false),([3,4,13,14,15,20,21,22],false)] } qgv=some qms:=by kernel_rfl
theorem q85:comp Tryz.prog { mF:=[9] } qj8=some qpt:=by kernel_rfl
theorem q3x:comp Tryz.prog { frz:=[1],frzv:=[37],own:=[3],loops:=[([3,9,10,11],true),([3,4,9,10,11,16,17,18],true)] } qgx=some qnt:=by kernel_rfl
theorem q9i:comp Tryz.prog { frzv:=[27],own:=[4],loops:=[([4,7,8,9],true)] } qj3=some qnp:=by kernel_rfl
theorem q76:comp Tryz.prog { mA:=[4] } qir=some qpp:=by kernel_rfl
theorem qz4:comp Tryz.prog { frz:=[4,5],appF:=[110,117],frzv:=[102],mA:=[26,29,32],mF:=[103],ldB:=[(71,10)],stA:=[(78,10)],loops:=[([2,3,4,5,8,9,10,11,40,41,42],true)] } qfz=some qlg:=by kernel_rfl
theorem q3h:comp Tryz.prog { frz:=[2,3] } qhc=some qd9:=by kernel_rfl
theorem q6w:comp Tryz.prog {  } qhr=some qmt:=by kernel_rfl
theorem qadh:comp Tryz.prog { frz:=[20],topZ:=[22],ownB:=[(22,(0,6))] } qn8=some q09:=by kernel_rfl
theorem qyd:comp Tryz.prog { mI:=[11,21] } qcx=some qid:=by kernel_rfl
theorem ql8:comp Tryz.prog { bad:=true } qas=some qbr:=by kernel_rfl
theorem qsq:comp Tryz.prog { mA:=[92],mI:=[94],mF:=[95],holes:=[2],fillB:=[(5,2)],appB:=[(38,0),(38,2)],ldB:=[(25,0),(27,2)] } qda=some qx:=by kernel_rfl
theorem qaa2:comp Tryz.prog {  } qhl=some qqw:=by kernel_rfl
theorem qaap:comp Tryz.prog {  } qik=some qq3:=by kernel_rfl
theorem q63:comp Tryz.prog {  } qex=some qor:=by kernel_rfl
theorem q4p:comp Tryz.prog {  } qfu=some qnw:=by kernel_rfl
theorem qwm:comp Tryz.prog { loops:=[([1,8,9,10],true)] } qeb=some qg7:=by kernel_rfl
theorem qrc:comp Tryz.prog {  } qbw=some qgm:=by kernel_rfl
theorem q69:comp Tryz.prog { loops:=[([0,33,34,35],true),([0,11,33,34,35,39,40,41],true)] } qi3=some qki:=by kernel_rfl
theorem qsu:comp Tryz.prog { loops:=[([1,8,9,10],true)] } qdb=some qfi:=by kernel_rfl
theorem qtd:comp Tryz.prog {  } qcn=some qhf:=by kernel_rfl
theorem quk:comp Tryz.prog { loops:=[([1,8,9,10],true)] } qdn=some qf7:=by kernel_rfl
theorem qqy:comp Tryz.prog { frz:=[2] } qbv=some qgn:=by kernel_rfl
theorem q4s:comp Tryz.prog { mA:=[12],mF:=[53],topZ:=[15],ownS:=[(15,6)],appB:=[(33,8)],ldB:=[(25,8)],loops:=[([5,6,17,18,19],true),([5,36,37,38],true)] } qfr=some qn1:=by kernel_rfl
theorem q97:comp Tryz.prog { mA:=[6] } qjm=some qrg:=by kernel_rfl
theorem q1q:comp Tryz.prog { mA:=[5],mI:=[7] } qds=some qma:=by kernel_rfl
theorem qxs:comp Tryz.prog { bad:=true,loops:=[([0,3,4],true)] } qes=some qju:=by kernel_rfl
theorem q4k:comp Tryz.prog { frz:=[2] } qgz=some qns:=by kernel_rfl
theorem q44:comp Tryz.prog { frz:=[4,5],mI:=[21,26,28],ownB:=[(17,(5,6)),(17,(6,6))],loops:=[([4,13],true)] } qg1=some qnr:=by kernel_rfl
theorem qwt:comp Tryz.prog {  } qed=some qi9:=by kernel_rfl
theorem qph:comp Tryz.prog {  } qbx=some qe8:=by kernel_rfl
theorem qz7:comp Tryz.prog { loops:=[([0,1,5],true)] } qf5=some qiy:=by kernel_rfl
theorem qaae:comp Tryz.prog {  } qm5=some qwg:=by kernel_rfl
theorem q1e:comp Tryz.prog { frz:=[7],mI:=[16] } qek=some qj1:=by kernel_rfl
theorem qz6:comp Tryz.prog { frz:=[2,3] } qf3=some qlj:=by kernel_rfl
theorem qxl:comp Tryz.prog { mI:=[10] } qc1=some qjq:=by kernel_rfl
theorem q94:comp Tryz.prog { frz:=[3,5],mA:=[52],mI:=[59,82,88],ldF:=[80],ldx:=[(96,6),(100,6),(104,6)],ownB:=[(56,(10,6)),(56,(12,1))] } qd8=some qbk:=by kernel_rfl
theorem qrl:comp Tryz.prog { frz:=[2] } qaa=some qgo:=by kernel_rfl
theorem qov:comp Tryz.prog {  } qbm=some qeo:=by kernel_rfl
theorem qp8:comp Tryz.prog {  } qaw=some qfs:=by kernel_rfl
theorem qu2:comp Tryz.prog { loops:=[([0,1,12,13],true)] } qcf=some qe3:=by kernel_rfl
theorem qj6:comp Tryz.prog { mI:=[10],loops:=[([0,1,5,6],true)] } qam=some qa8:=by kernel_rfl
theorem q31:comp Tryz.prog {  } qa4=some qnu:=by kernel_rfl
theorem qwy:comp Tryz.prog { frz:=[2,3] } qan=some qja:=by kernel_rfl
theorem qr9:comp Tryz.prog { frz:=[2,3],ldF:=[41,60,79] } qy=some qbb:=by kernel_rfl
theorem qug:comp Tryz.prog { frz:=[2,3] } qab=some qhy:=by kernel_rfl
theorem qu6:comp Tryz.prog { frz:=[2,3] } qaf=some qih:=by kernel_rfl
theorem q57:comp Tryz.prog { mA:=[8],mI:=[9] } qi8=some qon:=by kernel_rfl
theorem qi4:comp Tryz.prog { mI:=[8] } qad=some qbl:=by kernel_rfl
theorem qxx:comp Tryz.prog { frz:=[2,3] } qd=some qgb:=by kernel_rfl
theorem quz:comp Tryz.prog { frz:=[2,3] } qd3=some qig:=by kernel_rfl
theorem quf:comp Tryz.prog { frz:=[4,5],loops:=[([0,5,8,50,51,52],true),([0,81,82,83],true)] } qdm=some qgf:=by kernel_rfl
theorem qu1:comp Tryz.prog { ldx:=[(14,2),(18,2),(22,2),(26,2)] } qdy=some qii:=by kernel_rfl
theorem q6j:comp Tryz.prog {  } qhu=some qkk:=by kernel_rfl
theorem qxm:comp Tryz.prog { mI:=[20,44] } qcj=some qgi:=by kernel_rfl
theorem qyk:comp Tryz.prog {  } qdl=some qke:=by kernel_rfl
theorem qxw:comp Tryz.prog { ldF:=[5,6,10] } qcm=some qjt:=by kernel_rfl
theorem qz8:comp Tryz.prog { mI:=[10],ldK:=[(14,(0,2))],keep:=[(10,(0,(2,1)))] } qb6=some qi2:=by kernel_rfl
theorem quw:comp Tryz.prog {  } qah=some qgj:=by kernel_rfl
theorem qqn:comp Tryz.prog { mA:=[6],mI:=[10,19,44,49],loops:=[([0,1,4,7],true)] } qci=some qej:=by kernel_rfl
theorem qp5:comp Tryz.prog { loops:=[([0,1,7,8],true)] } qb8=some qd6:=by kernel_rfl
theorem qkc:comp Tryz.prog { loops:=[([0,1,7,8],true)] } qw=some qar:=by kernel_rfl
theorem qp9:comp Tryz.prog { mI:=[4] } qb7=some qfv:=by kernel_rfl
theorem q39:comp Tryz.prog {  } qh9=some qnx:=by kernel_rfl
theorem qnl:comp Tryz.prog { mI:=[18,27,43,60],loops:=[([0,1,2,6,7,8],true),([0,1,2,6],true),([0,1,2,6,7,8],true)] } qa9=some qdz:=by kernel_rfl
theorem qaaw:comp Tryz.prog {  } qk6=some qq1:=by kernel_rfl
theorem q2d:comp Tryz.prog {  } qge=some qis:=by kernel_rfl
theorem q0a:comp Tryz.prog {  } qf1=some qli:=by kernel_rfl
theorem qs9:comp Tryz.prog { loops:=[([0,1,2],true)] } qck=some qfl:=by kernel_rfl
theorem q9q:comp Tryz.prog { mA:=[20] } qj5=some ql6:=by kernel_rfl
theorem q4a:comp Tryz.prog { frz:=[3],mA:=[14],mI:=[18] } qg3=some qn2:=by kernel_rfl
theorem q4e:comp Tryz.prog { frz:=[3],mA:=[21],mI:=[9] } qh7=some qls:=by kernel_rfl
theorem qze:comp Tryz.prog {  } qe6=some qkd:=by kernel_rfl
theorem qvd:comp Tryz.prog {  } qd0=some qij:=by kernel_rfl
theorem q0e:comp Tryz.prog { mI:=[13] } qf4=some qle:=by kernel_rfl
theorem qw4:comp Tryz.prog {  } qec=some qjb:=by kernel_rfl
theorem qkb:comp Tryz.prog { own:=[2],loops:=[([2],true)] } qap=some qb3:=by kernel_rfl
theorem q01:comp Tryz.prog { loops:=[([0,1,2],true)] } qdu=some qmd:=by kernel_rfl
theorem qlb:comp Tryz.prog { loops:=[([0,1,2,3,8],true),([0,1,2,3,8,9],true)] } qaj=some qcr:=by kernel_rfl
theorem qm4:comp Tryz.prog { mI:=[191,205,219],loops:=[([0,1,4,10,11],true),([0,10,13],true),([0,2,4,14,15],true),([0,14,17],true),([0,1,2,3,4,18,19,20,21,22],true)] } qs=some qa6:=by kernel_rfl
theorem qace:comp Tryz.prog { loops:=[([3,6,7,8],true)] } qmo=some qp7:=by kernel_rfl
theorem q59:comp Tryz.prog {  } qho=some qoi:=by kernel_rfl
theorem qst:comp Tryz.prog { loops:=[([0,1,9,10,11],true)] } qc7=some qc9:=by kernel_rfl
theorem qf6:comp Tryz.prog { frz:=[4],loops:=[([0,2,4,8,9,10],true)] } qo=some qae:=by kernel_rfl
theorem q1b:comp Tryz.prog { frz:=[2] } qdv=some qmc:=by kernel_rfl
theorem qxj:comp Tryz.prog {  } qdw=some qjx:=by kernel_rfl
theorem qua:comp Tryz.prog { frz:=[3],mI:=[14,15],ldF:=[7] } qby=some qh1:=by kernel_rfl
theorem qt8:comp Tryz.prog { frz:=[3],mI:=[13] } qb0=some qh6:=by kernel_rfl
theorem qsv:comp Tryz.prog { frz:=[3],mI:=[7,21,22],mR:=[9],ldF:=[12] } qbu=some qhj:=by kernel_rfl
theorem quq:comp Tryz.prog { frz:=[3],mI:=[7] } qbn=some qgc:=by kernel_rfl
theorem qs2:comp Tryz.prog { frz:=[3],mI:=[33,34],ldF:=[30] } qbt=some qfo:=by kernel_rfl
theorem qvo:comp Tryz.prog { frz:=[3] } qce=some qgq:=by kernel_rfl
theorem quj:comp Tryz.prog { frz:=[3],mI:=[17],ldF:=[19] } qbz=some qdq:=by kernel_rfl
theorem qvk:comp Tryz.prog { frz:=[3] } qch=some qil:=by kernel_rfl
theorem qnh:comp Tryz.prog { mI:=[31,46,57],loops:=[([0,2,4,10,11],true)] } qav=some qd1:=by kernel_rfl
theorem qr5:comp Tryz.prog {  } qba=some qe5:=by kernel_rfl
theorem qve:comp Tryz.prog {  } qcg=some qim:=by kernel_rfl
theorem qmw:comp Tryz.prog { loops:=[([0,1,2,3,10],true)] } qak=some qdf:=by kernel_rfl
theorem qkj:qy0 Tryz.prog qag=some (1,24):=by kernel_rfl
theorem qpg:qy0 Tryz.prog qd5=some (4,48):=by kernel_rfl
theorem qun:qy0 Tryz.prog qgt=some (1,8):=by kernel_rfl
theorem qk5:qy0 Tryz.prog qax=some (6,64):=by kernel_rfl
theorem qn9:qy0 Tryz.prog qc2=some (4,48):=by kernel_rfl
theorem qkz:InsB Tryz.prog qa5 6 64 183 55 4:=⟨by kernel_rfl,by kernel_rfl,by kernel_rfl,by kernel_rfl,by kernel_rfl,by kernel_rfl,by kernel_rfl,by kernel_rfl,by kernel_rfl,by kernel_rfl,by kernel_rfl,by kernel_rfl,by kernel_rfl,by kernel_rfl,by kernel_rfl,by kernel_rfl,by kernel_rfl,by kernel_rfl,by kernel_rfl,by kernel_rfl,by kernel_rfl,by kernel_rfl,by kernel_rfl,by kernel_rfl⟩
def codeL:List (Nat×CFunc):=[(qdo,qcs),(qgw,qe7),(qfg,qfe),(qff,qfd),(qem,qcv),(qhw,qyp),(qlf,qjk),(qld,qjw),(qkr,qz2),(qei,qq8),(qe2,qre),(qet,qth),(qdt,qmb),(qhp,qkm),(qk4,qtt),(qep,qot),(qea,qkf),(qhi,qpq),(qe1,qny),(qmq,qti),(qgy,qlt),(qjo,qoc),(qmu,qy3),(qla,qfq),(qk7,qjr),(qk8,qie),(qdr,qps),(qjs,qto),(qfc,qhx),(qj4,qhg),(qi6,qoj),(qi7,qom),(qev,qc6),(qg,qcq),(qj9,qpv),(qee,qjc),(qcw,qf9),(qlq,qlh),(qh8,qez),(qdk,qeg),(qb9,qg6),(qcl,qhh),(qc3,qif),(qb5,qd7),(qe0,qn0),(qgv,qms),(qj8,qpt),(qgx,qnt),(qj3,qnp),(qir,qpp),(qfz,qlg),(qhc,qd9),(qhr,qmt),(qn8,q09),(qcx,qid),(qas,qbr),(qda,qx),(qhl,qqw),(qik,qq3),(qex,qor),(qfu,qnw),(qeb,qg7),(qbw,qgm),(qi3,qki),(qdb,qfi),(qcn,qhf),(qdn,qf7),(qbv,qgn),(qfr,qn1),(qjm,qrg),(qds,qma),(qes,qju),(qgz,qns),(qg1,qnr),(qed,qi9),(qbx,qe8),(qf5,qiy),(qm5,qwg),(qek,qj1),(qf3,qlj),(qc1,qjq),(qd8,qbk),(qaa,qgo),(qbm,qeo),(qaw,qfs),(qcf,qe3),(qam,qa8),(qa4,qnu),(qan,qja),(qy,qbb),(qab,qhy),(qaf,qih),(qi8,qon),(qad,qbl),(qd,qgb),(qd3,qig),(qdm,qgf),(qdy,qii),(qhu,qkk),(qcj,qgi),(qdl,qke),(qcm,qjt),(qb6,qi2),(qah,qgj),(qci,qej),(qb8,qd6),(qw,qar),(qb7,qfv),(qh9,qnx),(qa9,qdz),(qk6,qq1),(qge,qis),(qf1,qli),(qck,qfl),(qj5,ql6),(qg3,qn2),(qh7,qls),(qe6,qkd),(qd0,qij),(qf4,qle),(qec,qjb),(qap,qb3),(qdu,qmd),(qaj,qcr),(qs,qa6),(qmo,qp7),(qho,qoi),(qc7,qc9),(qo,qae),(qdv,qmc),(qdw,qjx),(qby,qh1),(qb0,qh6),(qbu,qhj),(qbn,qgc),(qbt,qfo),(qce,qgq),(qbz,qdq),(qch,qil),(qav,qd1),(qba,qe5),(qcg,qim),(qak,qdf)]
def extL:List (Nat×(Nat×Nat)):=[(qag,(1,24)),(qd5,(4,48)),(qgt,(1,8)),(qax,(6,64)),(qc2,(4,48))]
def insL:List (Nat×(Nat×Nat)):=[(qa5,(6,64))]
def qafo {α:Type}:List (Nat×α)→Nat→Option α
 | [],_=>none
 |(k,x)::l,i=>if k=i then some x else qafo l i
theorem q2o {α:Type} : ∀ {l:List (Nat×α)} {i:Nat} {x:α},qafo l i=some x→(i,x)∈l
 | [],_,_,h=>by simp[qafo]at h
 |(k,y)::l,i,x,h=>by
  simp only[qafo]at h
  split at h
  ·rename_i hk;subst hk;cases h;simp
  ·exact List.mem_cons_of_mem _ (q2o h)
def T:Tab:={ code:=qafo codeL,ext:=fun k=>(qafo extL k).map fun p=>qts p.1 p.2,ins:=qafo insL }
theorem codeL_ok : ∀x∈codeL,∃h,comp Tryz.prog h x.1=some x.2:=by
 intro x hx
 simp only[codeL,List.mem_cons,List.not_mem_nil,or_false]at hx
 rcases hx with rfl|rfl|rfl|rfl|rfl|rfl|rfl|rfl|rfl|rfl|rfl|rfl|rfl|rfl|rfl|rfl|rfl|rfl|rfl|rfl|rfl|rfl|rfl|rfl|rfl|rfl|rfl|rfl|rfl|rfl|rfl|rfl|rfl|rfl|rfl|rfl|rfl|rfl|rfl|rfl|rfl|rfl|rfl|rfl|rfl|rfl|rfl|rfl|rfl|rfl|rfl|rfl|rfl|rfl|rfl|rfl|rfl|rfl|rfl|rfl|rfl|rfl|rfl|rfl|rfl|rfl|rfl|rfl|rfl|rfl|rfl|rfl|rfl|rfl|rfl|rfl|rfl|rfl|rfl|rfl|rfl|rfl|rfl|rfl|rfl|rfl|rfl|rfl|rfl|rfl|rfl|rfl|rfl|rfl|rfl|rfl|rfl|rfl|rfl|rfl|rfl|rfl|rfl|rfl|rfl|rfl|rfl|rfl|rfl|rfl|rfl|rfl|rfl|rfl|rfl|rfl|rfl|rfl|rfl|rfl|rfl|rfl|rfl|rfl|rfl|rfl|rfl|rfl|rfl|rfl|rfl|rfl|rfl|rfl|rfl|rfl|rfl|rfl|rfl|rfl|rfl|rfl|rfl
 ·exact⟨_,qq7⟩
 ·exact⟨_,qx8⟩
 ·exact⟨_,qwp⟩
 ·exact⟨_,qw6⟩
 ·exact⟨_,qt3⟩
 ·exact⟨_,qab9⟩
 ·exact⟨_,qaak⟩
 ·exact⟨_,qaa0⟩
 ·exact⟨_,qagb⟩
 ·exact⟨_,q99⟩
 ·exact⟨_,qaan⟩
 ·exact⟨_,qacc⟩
 ·exact⟨_,q04⟩
 ·exact⟨_,q6p⟩
 ·exact⟨_,qack⟩
 ·exact⟨_,q62⟩
 ·exact⟨_,qzd⟩
 ·exact⟨_,q9o⟩
 ·exact⟨_,q3r⟩
 ·exact⟨_,qac9⟩
 ·exact⟨_,q4x⟩
 ·exact⟨_,qacf⟩
 ·exact⟨_,qacs⟩
 ·exact⟨_,qaai⟩
 ·exact⟨_,qaam⟩
 ·exact⟨_,qaav⟩
 ·exact⟨_,q8f⟩
 ·exact⟨_,qacn⟩
 ·exact⟨_,q1t⟩
 ·exact⟨_,q9r⟩
 ·exact⟨_,q6i⟩
 ·exact⟨_,q58⟩
 ·exact⟨_,q0i⟩
 ·exact⟨_,qlp⟩
 ·exact⟨_,q95⟩
 ·exact⟨_,qwf⟩
 ·exact⟨_,qt7⟩
 ·exact⟨_,qaa1⟩
 ·exact⟨_,q4i⟩
 ·exact⟨_,qww⟩
 ·exact⟨_,qsa⟩
 ·exact⟨_,qte⟩
 ·exact⟨_,qv1⟩
 ·exact⟨_,qp2⟩
 ·exact⟨_,q4u⟩
 ·exact⟨_,q61⟩
 ·exact⟨_,q85⟩
 ·exact⟨_,q3x⟩
 ·exact⟨_,q9i⟩
 ·exact⟨_,q76⟩
 ·exact⟨_,qz4⟩
 ·exact⟨_,q3h⟩
 ·exact⟨_,q6w⟩
 ·exact⟨_,qadh⟩
 ·exact⟨_,qyd⟩
 ·exact⟨_,ql8⟩
 ·exact⟨_,qsq⟩
 ·exact⟨_,qaa2⟩
 ·exact⟨_,qaap⟩
 ·exact⟨_,q63⟩
 ·exact⟨_,q4p⟩
 ·exact⟨_,qwm⟩
 ·exact⟨_,qrc⟩
 ·exact⟨_,q69⟩
 ·exact⟨_,qsu⟩
 ·exact⟨_,qtd⟩
 ·exact⟨_,quk⟩
 ·exact⟨_,qqy⟩
 ·exact⟨_,q4s⟩
 ·exact⟨_,q97⟩
 ·exact⟨_,q1q⟩
 ·exact⟨_,qxs⟩
 ·exact⟨_,q4k⟩
 ·exact⟨_,q44⟩
 ·exact⟨_,qwt⟩
 ·exact⟨_,qph⟩
 ·exact⟨_,qz7⟩
 ·exact⟨_,qaae⟩
 ·exact⟨_,q1e⟩
 ·exact⟨_,qz6⟩
 ·exact⟨_,qxl⟩
 ·exact⟨_,q94⟩
 ·exact⟨_,qrl⟩
 ·exact⟨_,qov⟩
 ·exact⟨_,qp8⟩
 ·exact⟨_,qu2⟩
 ·exact⟨_,qj6⟩
 ·exact⟨_,q31⟩
 ·exact⟨_,qwy⟩
 ·exact⟨_,qr9⟩
 ·exact⟨_,qug⟩
 ·exact⟨_,qu6⟩
 ·exact⟨_,q57⟩
 ·exact⟨_,qi4⟩
 ·exact⟨_,qxx⟩
 ·exact⟨_,quz⟩
 ·exact⟨_,quf⟩
 ·exact⟨_,qu1⟩
 ·exact⟨_,q6j⟩
 ·exact⟨_,qxm⟩
 ·exact⟨_,qyk⟩
 ·exact⟨_,qxw⟩
 ·exact⟨_,qz8⟩
 ·exact⟨_,quw⟩
 ·exact⟨_,qqn⟩
 ·exact⟨_,qp5⟩
 ·exact⟨_,qkc⟩
 ·exact⟨_,qp9⟩
 ·exact⟨_,q39⟩
 ·exact⟨_,qnl⟩
 ·exact⟨_,qaaw⟩
 ·exact⟨_,q2d⟩
 ·exact⟨_,q0a⟩
 ·exact⟨_,qs9⟩
 ·exact⟨_,q9q⟩
 ·exact⟨_,q4a⟩
 ·exact⟨_,q4e⟩
 ·exact⟨_,qze⟩
 ·exact⟨_,qvd⟩
 ·exact⟨_,q0e⟩
 ·exact⟨_,qw4⟩
 ·exact⟨_,qkb⟩
 ·exact⟨_,q01⟩
 ·exact⟨_,qlb⟩
 ·exact⟨_,qm4⟩
 ·exact⟨_,qace⟩
 ·exact⟨_,q59⟩
 ·exact⟨_,qst⟩
 ·exact⟨_,qf6⟩
 ·exact⟨_,q1b⟩
 ·exact⟨_,qxj⟩
 ·exact⟨_,qua⟩
 ·exact⟨_,qt8⟩
 ·exact⟨_,qsv⟩
 ·exact⟨_,quq⟩
 ·exact⟨_,qs2⟩
 ·exact⟨_,qvo⟩
 ·exact⟨_,quj⟩
 ·exact⟨_,qvk⟩
 ·exact⟨_,qnh⟩
 ·exact⟨_,qr5⟩
 ·exact⟨_,qve⟩
 ·exact⟨_,qmw⟩
theorem extL_ok : ∀x∈extL,qy0 Tryz.prog x.1=some x.2:=by
 intro x hx
 simp only[extL,List.mem_cons,List.not_mem_nil,or_false]at hx
 rcases hx with rfl|rfl|rfl|rfl|rfl
 ·exact qkj
 ·exact qpg
 ·exact qun
 ·exact qk5
 ·exact qn9
theorem mixed:Tryz.prog.follows .mixedOrders=true:=by kernel_rfl
theorem insL_ok : ∀x∈insL,InsOk Tryz.prog x.1 (insF x.2.1 x.2.2):=by
 intro x hx
 simp only[insL,List.mem_cons,List.not_mem_nil,or_false]at hx
 rcases hx with rfl
 ·exact ins_ok mixed qkz
theorem T_ok:TabOk Tryz.prog T where
 code k f h:=codeL_ok _ (q2o h)
 ext k F h:=by
  simp only[T,Option.map_eq_some_iff]at h
  obtain⟨p,h1,rfl⟩:=h
  exact clone_ok mixed (extL_ok _ (q2o h1))
 ins k p h:=insL_ok (k,p) (q2o h)
 mixed:=mixed
theorem qk2:T.code qdo=some qcs:=rfl
theorem qoo:T.code qgw=some qe7:=rfl
theorem qnm:T.code qfg=some qfe:=rfl
theorem qno:T.code qff=some qfd:=rfl
theorem qmx:T.code qem=some qcv:=rfl
theorem qal9:T.code qhw=some qyp:=rfl
theorem q52:T.code qlf=some qjk:=rfl
theorem q56:T.code qld=some qjw:=rfl
theorem qac5:T.code qkr=some qz2:=rfl
theorem q6y:T.code qei=some qq8:=rfl
theorem q6l:T.code qe2=some qre:=rfl
theorem q89:T.code qet=some qth:=rfl
theorem qya:T.code qdt=some qmb:=rfl
theorem q2m:T.code qhp=some qkm:=rfl
theorem q9z:T.code qk4=some qtt:=rfl
theorem q2f:T.code qep=some qot:=rfl
theorem qv9:T.code qea=some qkf:=rfl
theorem q3s:T.code qhi=some qpq:=rfl
theorem q1u:T.code qe1=some qny:=rfl
theorem q8n:T.code qmq=some qti:=rfl
theorem qr0:T.code qgy=some qlt:=rfl
theorem q8s:T.code qjo=some qoc:=rfl
theorem qalz:T.code qmu=some qy3:=rfl
theorem q6q:T.code qla=some qfq:=rfl
theorem q6o:T.code qk7=some qjr:=rfl
theorem q6u:T.code qk8=some qie:=rfl
theorem q4o:T.code qdr=some qps:=rfl
theorem q8b:T.code qjs=some qto:=rfl
theorem qyj:T.code qfc=some qhx:=rfl
theorem q37:T.code qj4=some qhg:=rfl
theorem q2e:T.code qi6=some qoj:=rfl
theorem q3a:T.code qi7=some qom:=rfl
theorem qxy:T.code qev=some qc6:=rfl
theorem qkp:T.code qg=some qcq:=rfl
theorem q5c:T.code qj9=some qpv:=rfl
theorem qt1:T.code qee=some qjc:=rfl
theorem qrv:T.code qcw=some qf9:=rfl
theorem q6f:T.code qlq=some qlh:=rfl
theorem q1g:T.code qh8=some qez:=rfl
theorem que:T.code qdk=some qeg:=rfl
theorem qqi:T.code qb9=some qg6:=rfl
theorem qq0:T.code qcl=some qhh:=rfl
theorem qsz:T.code qc3=some qif:=rfl
theorem qo4:T.code qb5=some qd7:=rfl
theorem q1s:T.code qe0=some qn0:=rfl
theorem qty:T.code qgv=some qms:=rfl
theorem q5d:T.code qj8=some qpt:=rfl
theorem q0s:T.code qgx=some qnt:=rfl
theorem q33:T.code qj3=some qnp:=rfl
theorem q5j:T.code qir=some qpp:=rfl
theorem qxr:T.code qfz=some qlg:=rfl
theorem qz9:T.code qhc=some qd9:=rfl
theorem q3n:T.code qhr=some qmt:=rfl
theorem code_shmem_New:T.code qn8=some q09:=rfl
theorem qwv:T.code qcx=some qid:=rfl
theorem qln:T.code qas=some qbr:=rfl
theorem qri:T.code qda=some qx:=rfl
theorem q6c:T.code qhl=some qqw:=rfl
theorem q6r:T.code qik=some qq3:=rfl
theorem q28:T.code qex=some qor:=rfl
theorem q0x:T.code qfu=some qnw:=rfl
theorem qut:T.code qeb=some qg7:=rfl
theorem qp1:T.code qbw=some qgm:=rfl
theorem q3l:T.code qi3=some qki:=rfl
theorem qrd:T.code qdb=some qfi:=rfl
theorem qrj:T.code qcn=some qhf:=rfl
theorem qsk:T.code qdn=some qf7:=rfl
theorem qp3:T.code qbv=some qgn:=rfl
theorem q03:T.code qfr=some qn1:=rfl
theorem q6d:T.code qjm=some qrg:=rfl
theorem qyc:T.code qds=some qma:=rfl
theorem qvn:T.code qes=some qju:=rfl
theorem q1f:T.code qgz=some qns:=rfl
theorem q1n:T.code qg1=some qnr:=rfl
theorem qum:T.code qed=some qi9:=rfl
theorem qop:T.code qbx=some qe8:=rfl
theorem qxn:T.code qf5=some qiy:=rfl
theorem qajg:T.code qm5=some qwg:=rfl
theorem qpy:T.code qek=some qj1:=rfl
theorem qx0:T.code qf3=some qlj:=rfl
theorem qv0:T.code qc1=some qjq:=rfl
theorem qmz:T.code qd8=some qbk:=rfl
theorem qpx:T.code qaa=some qgo:=rfl
theorem qn3:T.code qbm=some qeo:=rfl
theorem qo7:T.code qaw=some qfs:=rfl
theorem qss:T.code qcf=some qe3:=rfl
theorem qjd:T.code qam=some qa8:=rfl
theorem q05:T.code qa4=some qnu:=rfl
theorem qup:T.code qan=some qja:=rfl
theorem qqm:T.code qy=some qbb:=rfl
theorem qsj:T.code qab=some qhy:=rfl
theorem qsp:T.code qaf=some qih:=rfl
theorem q23:T.code qi8=some qon:=rfl
theorem qin:T.code qad=some qbl:=rfl
theorem qko:T.code qd=some qgb:=rfl
theorem qsr:T.code qd3=some qig:=rfl
theorem qrp:T.code qdm=some qgf:=rfl
theorem qsy:T.code qdy=some qii:=rfl
theorem q3k:T.code qhu=some qkk:=rfl
theorem qks:T.code qcj=some qgi:=rfl
theorem qwz:T.code qdl=some qke:=rfl
theorem qvb:T.code qcm=some qjt:=rfl
theorem qx1:T.code qb6=some qi2:=rfl
theorem qmi:T.code qah=some qgj:=rfl
theorem qpn:T.code qci=some qej:=rfl
theorem qo6:T.code qb8=some qd6:=rfl
theorem qfa:T.code qw=some qar:=rfl
theorem qo3:T.code qb7=some qfv:=rfl
theorem q1r:T.code qh9=some qnx:=rfl
theorem qm0:T.code qa9=some qdz:=rfl
theorem q54:T.code qk6=some qq1:=rfl
theorem qz3:T.code qge=some qis:=rfl
theorem qx2:T.code qf1=some qli:=rfl
theorem qrf:T.code qck=some qfl:=rfl
theorem q4f:T.code qj5=some ql6:=rfl
theorem q1j:T.code qg3=some qn2:=rfl
theorem qrs:T.code qh7=some qls:=rfl
theorem qw2:T.code qe6=some qkd:=rfl
theorem qtf:T.code qd0=some qij:=rfl
theorem qxq:T.code qf4=some qle:=rfl
theorem quu:T.code qec=some qjb:=rfl
theorem qj0:T.code qap=some qb3:=rfl
theorem qyx:T.code qdu=some qmd:=rfl
theorem qkt:T.code qaj=some qcr:=rfl
theorem qel:T.code qs=some qa6:=rfl
theorem q83:T.code qmo=some qp7:=rfl
theorem q1y:T.code qho=some qoi:=rfl
theorem qq6:T.code qc7=some qc9:=rfl
theorem qft:T.code qo=some qae:=rfl
theorem qx6:T.code qdv=some qmc:=rfl
theorem qu9:T.code qdw=some qjx:=rfl
theorem qrx:T.code qby=some qh1:=rfl
theorem qro:T.code qb0=some qh6:=rfl
theorem qq4:T.code qbu=some qhj:=rfl
theorem qr3:T.code qbn=some qgc:=rfl
theorem qrk:T.code qbt=some qfo:=rfl
theorem qs1:T.code qce=some qgq:=rfl
theorem qsg:T.code qbz=some qdq:=rfl
theorem qta:T.code qch=some qil:=rfl
theorem qm7:T.code qav=some qd1:=rfl
theorem qqd:T.code qba=some qe5:=rfl
theorem qs4:T.code qcg=some qim:=rfl
theorem ql9:T.code qak=some qdf:=rfl
theorem qqf:T.ext qdo=none∧T.ins qdo=none:=⟨rfl,rfl⟩
theorem qxv:T.ext qgw=none∧T.ins qgw=none:=⟨rfl,rfl⟩
theorem quy:T.ext qfg=none∧T.ins qfg=none:=⟨rfl,rfl⟩
theorem qu3:T.ext qff=none∧T.ins qff=none:=⟨rfl,rfl⟩
theorem qs8:T.ext qem=none∧T.ins qem=none:=⟨rfl,rfl⟩
theorem ext_law25_head:T.ext qhw=none∧T.ins qhw=none:=⟨rfl,rfl⟩
theorem q74:T.ext qlf=none∧T.ins qlf=none:=⟨rfl,rfl⟩
theorem q81:T.ext qld=none∧T.ins qld=none:=⟨rfl,rfl⟩
theorem qaet:T.ext qkr=none∧T.ins qkr=none:=⟨rfl,rfl⟩
theorem q8l:T.ext qei=none∧T.ins qei=none:=⟨rfl,rfl⟩
theorem q90:T.ext qe2=none∧T.ins qe2=none:=⟨rfl,rfl⟩
theorem qaag:T.ext qet=none∧T.ins qet=none:=⟨rfl,rfl⟩
theorem q0g:T.ext qdt=none∧T.ins qdt=none:=⟨rfl,rfl⟩
theorem q32:T.ext qhp=none∧T.ins qhp=none:=⟨rfl,rfl⟩
theorem qaat:T.ext qk4=none∧T.ins qk4=none:=⟨rfl,rfl⟩
theorem q5e:T.ext qep=none∧T.ins qep=none:=⟨rfl,rfl⟩
theorem qxt:T.ext qea=none∧T.ins qea=none:=⟨rfl,rfl⟩
theorem q6h:T.ext qhi=none∧T.ins qhi=none:=⟨rfl,rfl⟩
theorem q2i:T.ext qe1=none∧T.ins qe1=none:=⟨rfl,rfl⟩
theorem qaay:T.ext qmq=none∧T.ins qmq=none:=⟨rfl,rfl⟩
theorem qtw:T.ext qgy=none∧T.ins qgy=none:=⟨rfl,rfl⟩
theorem qaac:T.ext qjo=none∧T.ins qjo=none:=⟨rfl,rfl⟩
theorem ext_law19_Base:T.ext qmu=none∧T.ins qmu=none:=⟨rfl,rfl⟩
theorem q8u:T.ext qla=none∧T.ins qla=none:=⟨rfl,rfl⟩
theorem q8w:T.ext qk7=none∧T.ins qk7=none:=⟨rfl,rfl⟩
theorem q71:T.ext qk8=none∧T.ins qk8=none:=⟨rfl,rfl⟩
theorem q6k:T.ext qdr=none∧T.ins qdr=none:=⟨rfl,rfl⟩
theorem qaau:T.ext qjs=none∧T.ins qjs=none:=⟨rfl,rfl⟩
theorem q0b:T.ext qfc=none∧T.ins qfc=none:=⟨rfl,rfl⟩
theorem q6g:T.ext qj4=none∧T.ins qj4=none:=⟨rfl,rfl⟩
theorem q38:T.ext qi6=none∧T.ins qi6=none:=⟨rfl,rfl⟩
theorem q5k:T.ext qi7=none∧T.ins qi7=none:=⟨rfl,rfl⟩
theorem qye:T.ext qev=none∧T.ins qev=none:=⟨rfl,rfl⟩
theorem qky:T.ext qg=none∧T.ins qg=none:=⟨rfl,rfl⟩
theorem q6b:T.ext qj9=none∧T.ins qj9=none:=⟨rfl,rfl⟩
theorem qvt:T.ext qee=none∧T.ins qee=none:=⟨rfl,rfl⟩
theorem qsw:T.ext qcw=none∧T.ins qcw=none:=⟨rfl,rfl⟩
theorem q7w:T.ext qlq=none∧T.ins qlq=none:=⟨rfl,rfl⟩
theorem q2b:T.ext qh8=none∧T.ins qh8=none:=⟨rfl,rfl⟩
theorem qvf:T.ext qdk=none∧T.ins qdk=none:=⟨rfl,rfl⟩
theorem qrb:T.ext qb9=none∧T.ins qb9=none:=⟨rfl,rfl⟩
theorem qr6:T.ext qcl=none∧T.ins qcl=none:=⟨rfl,rfl⟩
theorem qt2:T.ext qc3=none∧T.ins qc3=none:=⟨rfl,rfl⟩
theorem qpe:T.ext qb5=none∧T.ins qb5=none:=⟨rfl,rfl⟩
theorem q2a:T.ext qe0=none∧T.ins qe0=none:=⟨rfl,rfl⟩
theorem qvz:T.ext qgv=none∧T.ins qgv=none:=⟨rfl,rfl⟩
theorem q6v:T.ext qj8=none∧T.ins qj8=none:=⟨rfl,rfl⟩
theorem q2g:T.ext qgx=none∧T.ins qgx=none:=⟨rfl,rfl⟩
theorem q6a:T.ext qj3=none∧T.ins qj3=none:=⟨rfl,rfl⟩
theorem q65:T.ext qir=none∧T.ins qir=none:=⟨rfl,rfl⟩
theorem qyv:T.ext qfz=none∧T.ins qfz=none:=⟨rfl,rfl⟩
theorem q1i:T.ext qhc=none∧T.ins qhc=none:=⟨rfl,rfl⟩
theorem q5i:T.ext qhr=none∧T.ins qhr=none:=⟨rfl,rfl⟩
theorem ext_shmem_New:T.ext qn8=none∧T.ins qn8=none:=⟨rfl,rfl⟩
theorem qxk:T.ext qcx=none∧T.ins qcx=none:=⟨rfl,rfl⟩
theorem qlr:T.ext qas=none∧T.ins qas=none:=⟨rfl,rfl⟩
theorem qr1:T.ext qda=none∧T.ins qda=none:=⟨rfl,rfl⟩
theorem q9m:T.ext qhl=none∧T.ins qhl=none:=⟨rfl,rfl⟩
theorem q8m:T.ext qik=none∧T.ins qik=none:=⟨rfl,rfl⟩
theorem q46:T.ext qex=none∧T.ins qex=none:=⟨rfl,rfl⟩
theorem q3b:T.ext qfu=none∧T.ins qfu=none:=⟨rfl,rfl⟩
theorem qvw:T.ext qeb=none∧T.ins qeb=none:=⟨rfl,rfl⟩
theorem qqe:T.ext qbw=none∧T.ins qbw=none:=⟨rfl,rfl⟩
theorem q5b:T.ext qi3=none∧T.ins qi3=none:=⟨rfl,rfl⟩
theorem qsd:T.ext qdb=none∧T.ins qdb=none:=⟨rfl,rfl⟩
theorem qsl:T.ext qcn=none∧T.ins qcn=none:=⟨rfl,rfl⟩
theorem qs5:T.ext qdn=none∧T.ins qdn=none:=⟨rfl,rfl⟩
theorem qqh:T.ext qbv=none∧T.ins qbv=none:=⟨rfl,rfl⟩
theorem q3j:T.ext qfr=none∧T.ins qfr=none:=⟨rfl,rfl⟩
theorem q9a:T.ext qjm=none∧T.ins qjm=none:=⟨rfl,rfl⟩
theorem q0d:T.ext qds=none∧T.ins qds=none:=⟨rfl,rfl⟩
theorem qwo:T.ext qes=none∧T.ins qes=none:=⟨rfl,rfl⟩
theorem q2s:T.ext qgz=none∧T.ins qgz=none:=⟨rfl,rfl⟩
theorem q2y:T.ext qg1=none∧T.ins qg1=none:=⟨rfl,rfl⟩
theorem qvv:T.ext qed=none∧T.ins qed=none:=⟨rfl,rfl⟩
theorem qo5:T.ext qbx=none∧T.ins qbx=none:=⟨rfl,rfl⟩
theorem qyf:T.ext qf5=none∧T.ins qf5=none:=⟨rfl,rfl⟩
theorem qaj6:T.ext qm5=none∧T.ins qm5=none:=⟨rfl,rfl⟩
theorem qqt:T.ext qek=none∧T.ins qek=none:=⟨rfl,rfl⟩
theorem qyo:T.ext qf3=none∧T.ins qf3=none:=⟨rfl,rfl⟩
theorem qwe:T.ext qc1=none∧T.ins qc1=none:=⟨rfl,rfl⟩
theorem qnz:T.ext qd8=none∧T.ins qd8=none:=⟨rfl,rfl⟩
theorem qqg:T.ext qaa=none∧T.ins qaa=none:=⟨rfl,rfl⟩
theorem qof:T.ext qbm=none∧T.ins qbm=none:=⟨rfl,rfl⟩
theorem qo8:T.ext qaw=none∧T.ins qaw=none:=⟨rfl,rfl⟩
theorem qus:T.ext qcf=none∧T.ins qcf=none:=⟨rfl,rfl⟩
theorem qjp:T.ext qam=none∧T.ins qam=none:=⟨rfl,rfl⟩
theorem q2u:T.ext qa4=none∧T.ins qa4=none:=⟨rfl,rfl⟩
theorem qu5:T.ext qan=none∧T.ins qan=none:=⟨rfl,rfl⟩
theorem qrh:T.ext qy=none∧T.ins qy=none:=⟨rfl,rfl⟩
theorem qs7:T.ext qab=none∧T.ins qab=none:=⟨rfl,rfl⟩
theorem qt6:T.ext qaf=none∧T.ins qaf=none:=⟨rfl,rfl⟩
theorem q48:T.ext qi8=none∧T.ins qi8=none:=⟨rfl,rfl⟩
theorem qit:T.ext qad=none∧T.ins qad=none:=⟨rfl,rfl⟩
theorem qll:T.ext qd=none∧T.ins qd=none:=⟨rfl,rfl⟩
theorem qt0:T.ext qd3=none∧T.ins qd3=none:=⟨rfl,rfl⟩
theorem qs6:T.ext qdm=none∧T.ins qdm=none:=⟨rfl,rfl⟩
theorem qur:T.ext qdy=none∧T.ins qdy=none:=⟨rfl,rfl⟩
theorem q4g:T.ext qhu=none∧T.ins qhu=none:=⟨rfl,rfl⟩
theorem qlc:T.ext qcj=none∧T.ins qcj=none:=⟨rfl,rfl⟩
theorem qxi:T.ext qdl=none∧T.ins qdl=none:=⟨rfl,rfl⟩
theorem qwr:T.ext qcm=none∧T.ins qcm=none:=⟨rfl,rfl⟩
theorem qx9:T.ext qb6=none∧T.ins qb6=none:=⟨rfl,rfl⟩
theorem qm9:T.ext qah=none∧T.ins qah=none:=⟨rfl,rfl⟩
theorem qqa:T.ext qci=none∧T.ins qci=none:=⟨rfl,rfl⟩
theorem qpl:T.ext qb8=none∧T.ins qb8=none:=⟨rfl,rfl⟩
theorem qfn:T.ext qw=none∧T.ins qw=none:=⟨rfl,rfl⟩
theorem qpm:T.ext qb7=none∧T.ins qb7=none:=⟨rfl,rfl⟩
theorem q2t:T.ext qh9=none∧T.ins qh9=none:=⟨rfl,rfl⟩
theorem qnb:T.ext qa9=none∧T.ins qa9=none:=⟨rfl,rfl⟩
theorem q80:T.ext qk6=none∧T.ins qk6=none:=⟨rfl,rfl⟩
theorem q0u:T.ext qge=none∧T.ins qge=none:=⟨rfl,rfl⟩
theorem qym:T.ext qf1=none∧T.ins qf1=none:=⟨rfl,rfl⟩
theorem qmj:T.ext qck=none∧T.ins qck=none:=⟨rfl,rfl⟩
theorem q68:T.ext qj5=none∧T.ins qj5=none:=⟨rfl,rfl⟩
theorem q3m:T.ext qg3=none∧T.ins qg3=none:=⟨rfl,rfl⟩
theorem qtx:T.ext qh7=none∧T.ins qh7=none:=⟨rfl,rfl⟩
theorem qxz:T.ext qe6=none∧T.ins qe6=none:=⟨rfl,rfl⟩
theorem qt4:T.ext qd0=none∧T.ins qd0=none:=⟨rfl,rfl⟩
theorem qy2:T.ext qf4=none∧T.ins qf4=none:=⟨rfl,rfl⟩
theorem qv4:T.ext qec=none∧T.ins qec=none:=⟨rfl,rfl⟩
theorem qj2:T.ext qap=none∧T.ins qap=none:=⟨rfl,rfl⟩
theorem qqr:T.ext qdu=none∧T.ins qdu=none:=⟨rfl,rfl⟩
theorem qk0:T.ext qaj=none∧T.ins qaj=none:=⟨rfl,rfl⟩
theorem qeq:T.ext qs=none∧T.ins qs=none:=⟨rfl,rfl⟩
theorem qaaj:T.ext qmo=none∧T.ins qmo=none:=⟨rfl,rfl⟩
theorem q47:T.ext qho=none∧T.ins qho=none:=⟨rfl,rfl⟩
theorem qrq:T.ext qc7=none∧T.ins qc7=none:=⟨rfl,rfl⟩
theorem qf0:T.ext qo=none∧T.ins qo=none:=⟨rfl,rfl⟩
theorem qz5:T.ext qdv=none∧T.ins qdv=none:=⟨rfl,rfl⟩
theorem qwl:T.ext qdw=none∧T.ins qdw=none:=⟨rfl,rfl⟩
theorem qs3:T.ext qby=none∧T.ins qby=none:=⟨rfl,rfl⟩
theorem qtb:T.ext qb0=none∧T.ins qb0=none:=⟨rfl,rfl⟩
theorem qso:T.ext qbu=none∧T.ins qbu=none:=⟨rfl,rfl⟩
theorem qsx:T.ext qbn=none∧T.ins qbn=none:=⟨rfl,rfl⟩
theorem qr7:T.ext qbt=none∧T.ins qbt=none:=⟨rfl,rfl⟩
theorem qui:T.ext qce=none∧T.ins qce=none:=⟨rfl,rfl⟩
theorem qtc:T.ext qbz=none∧T.ins qbz=none:=⟨rfl,rfl⟩
theorem qt5:T.ext qch=none∧T.ins qch=none:=⟨rfl,rfl⟩
theorem qne:T.ext qav=none∧T.ins qav=none:=⟨rfl,rfl⟩
theorem qq2:T.ext qba=none∧T.ins qba=none:=⟨rfl,rfl⟩
theorem qul:T.ext qcg=none∧T.ins qcg=none:=⟨rfl,rfl⟩
theorem qmf:T.ext qak=none∧T.ins qak=none:=⟨rfl,rfl⟩
theorem qgh:T.ext qag=some (qts 1 24):=rfl
theorem qpj:T.ext qd5=some (qts 4 48):=rfl
theorem qux:T.ext qgt=some (qts 1 8):=rfl
theorem qlm:T.ext qax=some (qts 6 64):=rfl
theorem qn7:T.ext qc2=some (qts 4 48):=rfl
theorem qkx:T.ins qa5=some (6,64):=rfl
theorem qkl:T.ext qa5=none:=rfl
def qa0 (n:Int):List AV:=[(ii n)]
theorem int_lo (n:Nat) (x:Int):los n (qa0 x)=true:=rfl
theorem int_pl (x:Int):(qa0 x).length=1∧qfx (qa0 x)=true:=⟨rfl,rfl⟩
theorem qm (n:Nat) (l:List Int):qc5 n (l.map qa0)=true:=qjy (int_lo n) l
theorem qafz (l:List Int):qcy 1 (l.map qa0)=true:=qo9 int_pl l
def qna (l:List Int):List AV:=[(.fsl ((l).map qa0) false)]
theorem key_lo (n:Nat) (l:List Int):los n (qna l)=true:=by simp only[qna,los,AV.lo,qm,zfc]
theorem qew (n:Nat) (l:List (List Int)):qc5 n (l.map qna)=true:=qjy (key_lo n) l
structure OpI where
 code:Int
 a:Int
 b:Int
 c:Int
 deriving DecidableEq
def OpI.r (x:OpI):List AV:=[(ii x.code),(ii x.a),(ii x.b),(ii x.c)]
theorem op_lo (n:Nat) (x:OpI):los n x.r=true:=rfl
theorem qia (n:Nat) (l:List OpI):qc5 n (l.map OpI.r)=true:=qjy (op_lo n) l
def qaz (p:List OpI):List AV:=[(.fsl ((p).map OpI.r) false)]
theorem progC_lo (n:Nat) (l:List OpI):los n (qaz l)=true:=by simp only[qaz,los,AV.lo,qia,zfc]
theorem qu (n:Nat) (l:List (List OpI)):qc5 n (l.map qaz)=true:=qjy (progC_lo n) l
structure Start where
 prog:Int
 time:Int
 deriving DecidableEq
def Start.r (x:Start):List AV:=[(ii x.prog),(ii x.time)]
theorem start_lo (n:Nat) (x:Start):los n x.r=true:=rfl
theorem qsh (n:Nat) (l:List Start):qc5 n (l.map Start.r)=true:=qjy (start_lo n) l
def lpC (p:List Start):List AV:=[(.fsl ((p).map Start.r) false)]
theorem lpC_lo (n:Nat) (l:List Start):los n (lpC l)=true:=by simp only[lpC,los,AV.lo,qsh,zfc]
theorem qa2 (n:Nat) (l:List (List Start)):qc5 n (l.map lpC)=true:=qjy (lpC_lo n) l
structure Cfg where
 lps:List (List Start)
 progs:List (List OpI)
 look:Int
 fin:Int
 cap:Int
def qxh (n:Int):Bool:=decide (n≥1)&&decide (n≤1099511627776)
def q2q (n:Int):Bool:=decide (n ≥ -1073741824)&&decide (n≤1073741824)
theorem qpu (n:Int):qac (evL T) qhl [(ii n)]=some (bb (qxh n)):=by
 rw[qac,qe q9m q6c]
 by_cases h1:n≥1<;>simp only[qxh,qqw,h1,Ev.ev1,qh,zgy,↓qc,↓reduceIte,Nat.reduceEqDiff,reduceCtorEq]
theorem quc (n:Int):qac (evL T) qik [(ii n)]=some (bb (q2q n)):=by
 rw[qac,qe q8m q6r]
 by_cases h1:n ≥ -1073741824<;>simp only[q2q,qq3,h1,Ev.ev1,qh,zgy,↓qc,↓reduceIte,Nat.reduceEqDiff,Int.reduceNeg,reduceCtorEq]
def q0v (x:OpI) (n ps:Int):Bool:=
 if x.code=1 then qxh x.a&&(decide (x.b=0)&&decide (x.c=0))
 else if x.code=2 then decide (x.a≥0)&&(q2q x.b&&qxh x.c)
 else if x.code=3 then qxh x.a&&(decide (x.b≥0)&&(decide (x.b<n)&&decide (x.c=0)))
 else if x.code=5 then decide (x.a≥0)&&(decide (x.a<ps)&&(qxh x.b&&decide (x.c=0)))
 else if x.code=6 then decide (x.a≥0)&&(decide (x.a<2)&&(q2q x.b&&decide (x.c=0)))
 else if x.code=7 then decide (x.a≥0)&&(decide (x.a<2)&&(q2q x.b&&(decide (x.c≥0)&&decide (x.c<n))))
 else decide (x.a=0)&&(decide (x.b=0)&&decide (x.c=0))
theorem qv3 (x:OpI) (n ps:Int):qac (evL T) qh8 [(.agg [(ii x.code),(ii x.a),(ii x.b),(ii x.c)]),(ii n),(ii ps)]=some (bb (q0v x n ps)):=by
 obtain⟨k,a,b,c⟩:=x
 rw[qac,qe q2b q1g]
 simp only[q0v]
 by_cases k1:k=1
 ·subst k1
  cases h1:qxh a<;>by_cases h2:b=0<;>simp only[qez,qpu,h1,h2,Ev.ev1,qb,Ev.AV.cells,Ev.AV.plain,qh,ne_eq,zgy,↓qc,↓reduceIte,Nat.reduceAdd,Nat.reduceEqDiff]
 by_cases k2:k=2
 ·subst k2
  by_cases h1:a≥0<;>cases h2:q2q b<;>simp only[qez,qpu,quc,h1,h2,Ev.ev1,qb,Ev.AV.cells,Ev.AV.plain,qh,ne_eq,zgy,↓qc,↓reduceIte,Nat.reduceAdd,Nat.reduceEqDiff,Int.reduceEq]
 by_cases k3:k=3
 ·subst k3
  cases h1:qxh a<;>by_cases h2:b≥0<;>by_cases h3:b<n<;>simp only[qez,qpu,h1,h2,h3,Ev.ev1,qb,Ev.AV.cells,Ev.AV.plain,qh,ne_eq,zgy,↓qc,↓reduceIte,Nat.reduceAdd,Nat.reduceEqDiff,Int.reduceEq,reduceCtorEq]
 by_cases k5:k=5
 ·subst k5
  by_cases h1:a≥0<;>by_cases h2:a<ps<;>cases h3:qxh b<;>simp only[qez,qpu,h1,h2,h3,Ev.ev1,qb,Ev.AV.cells,Ev.AV.plain,qh,ne_eq,zgy,↓qc,↓reduceIte,Nat.reduceAdd,Nat.reduceEqDiff,Int.reduceEq,reduceCtorEq]
 by_cases k6:k=6
 ·subst k6
  by_cases h1:a≥0<;>by_cases h2:a<2<;>cases h3:q2q b<;>simp only[qez,quc,h1,h2,h3,Ev.ev1,qb,Ev.AV.cells,Ev.AV.plain,qh,ne_eq,zgy,↓qc,↓reduceIte,Nat.reduceAdd,Nat.reduceEqDiff,Int.reduceEq]
 by_cases k7:k=7
 ·subst k7
  by_cases h1:a≥0<;>by_cases h2:a<2<;>cases h3:q2q b<;>by_cases h4:c≥0<;>simp only[qez,quc,h1,h2,h3,h4,Ev.ev1,qb,Ev.AV.cells,Ev.AV.plain,qh,ne_eq,zgy,↓qc,↓reduceIte,Nat.reduceAdd,Nat.reduceEqDiff,Int.reduceEq,reduceCtorEq]
 by_cases h1:a=0<;>by_cases h2:b=0<;>simp only[qez,k1,k2,k3,k5,k6,k7,h1,h2,Ev.ev1,qb,Ev.AV.cells,Ev.AV.plain,qh,ne_eq,zgy,↓qc,↓reduceIte,Nat.reduceAdd,Nat.reduceEqDiff]
def q7a (x:OpI):Bool:=decide (x.code≥1)&&decide (x.code≤8)
def qxc (p:List OpI):Bool:=decide (1≤p.length∧p.length≤16)&&p.all q7a
def qagc (lps:Int) (x:OpI):Bool:=!(decide (x.code=2)&&decide (x.a≥lps))
def qry (look:Int) (x:OpI):Bool:=!(decide (x.code=2)&&decide (x.c<look))
def qqp (p:List OpI) (ps lps look:Int):Int:=
 if qxc p=false then 22 else if p.all (fun x=>q0v x p.length ps)=false then 22 else if p.all (qagc lps)=false then 23 else if p.all (qry look)=false then 21 else 0
section
variable (p:List OpI) (c:Bool) (ps lps look:Int)
theorem qacr (hl:p.length≤16) :
  ∃y,itB (exec (evL T) itL none qjg) (qai [0,3] true 0) ⟨[(0,(.fsl ((p).map OpI.r) c)),(3,(ii 0))],[]⟩ []=some y∧(p.all q7a=true∧(y.1 = .exit 0∧y.2.1.marks=[]∧y.2.2=[]) ∨
   p.all q7a=false ∧ ∃x,p.find? (fun x => !q7a x)=some x∧(y.1 = .ret∧y.2.1.marks=[]∧y.2.2=[]∧Ev.look y.2.1.vars 2=some (bb false))):=by
 refine qgl p (fun i=>⟨[(0,(.fsl ((p).map OpI.r) c)),(3,(ii i))],[]⟩) [] q7a _ (fun _ y => _) ?_ ?_ ?_
 ·intro i x hi hx hp
  have hi':(i:Int)<(p.length:Int):=by omega
  have hw:IntKind.i64.wrap ((i:Int)+1)=((i+1:Nat):Int):=by rw[qi (by omega) (by omega)];simp
  simp only[q7a,Bool.and_eq_true,decide_eq_true_eq]at hp
  have h1:¬x.code<1:=by omega
  have h2:¬x.code>8:=by omega
  simp only[qjg,zgs,zgr,zgq,zgt,OpI.r,hx,hi',hw,h1,h2,qia,Ev.ev1,qb,zgy,↓qc,↓reduceIte,Nat.reduceAdd,Nat.reduceEqDiff,reduceCtorEq]
 ·intro i x hi hx hp
  have hi':(i:Int)<(p.length:Int):=by omega
  simp only[q7a,Bool.and_eq_false_iff,decide_eq_false_iff_not]at hp
  by_cases h1:x.code<1
  ·simp only[qjg,zgs,zgr,zgq,zgt,OpI.r,hx,hi',h1,Ev.ev1,qb,zgy,↓qc,↓reduceIte,Nat.reduceAdd,Nat.reduceEqDiff,reduceCtorEq]
   exact⟨_,rfl,rfl,rfl,rfl,rfl⟩
  ·have h2:x.code>8:=by omega
   simp only[qjg,zgs,zgr,zgq,zgt,OpI.r,hx,hi',h1,h2,Ev.ev1,qb,zgy,↓qc,↓reduceIte,Nat.reduceAdd,Nat.reduceEqDiff,reduceCtorEq]
   exact⟨_,rfl,rfl,rfl,rfl,rfl⟩
 ·simp only[qjg,Int.lt_irrefl,Ev.ev1,zgy,↓qc,↓reduceIte,Nat.reduceEqDiff,reduceCtorEq]
  exact⟨_,rfl,rfl,rfl,rfl⟩
theorem q98:qac (evL T) qlq [(.fsl ((p).map OpI.r) c)]=some (bb (qxc p)):=by
 rw[qac,qe q7w q6f]
 by_cases h1:(p.length:Int)<1
 ·have:¬(1≤p.length∧p.length≤16):=by omega
  simp only[qlh,qxc,this,h1,Ev.ev1,qh,zgy,↓qc,↓reduceIte,Nat.reduceEqDiff,reduceCtorEq]
 by_cases h2:(p.length:Int)>16
 ·have:¬(1≤p.length∧p.length≤16):=by omega
  simp only[qlh,qxc,this,h1,h2,Ev.ev1,qh,zgy,↓qc,↓reduceIte,Nat.reduceEqDiff,reduceCtorEq]
 have h3:1≤p.length∧p.length≤16:=by omega
 obtain⟨⟨y,e,σ⟩,k1,k2⟩:=qacr p c h3.2
 simp only at k2
 rcases k2 with ⟨k3,rfl,k4,rfl⟩|⟨k3,x,_,rfl,k4,rfl,k5⟩
 ·simp only[qlh,qxc,h3,h1,h2,k1,k3,k4,qia,Ev.ev1,qh,zgy,↓qc,↓qv,↓reduceIte,Nat.reduceEqDiff,reduceCtorEq]
 ·simp only[qlh,qxc,h3,h1,h2,k1,k3,k4,k5,qia,Ev.ev1,qh,zgy,↓qc,↓qv,↓reduceIte,Nat.reduceEqDiff,reduceCtorEq]
theorem qaax (hl:p.length≤16) :
  ∃y,itB (exec (evL T) itL none qlw) (qai [0,1,2,3,9] true 0) ⟨[(0,(.fsl ((p).map OpI.r) c)),(1,(ii ps)),(2,(ii lps)),(3,(ii look)),(9,(ii 0))],[]⟩ []=some y ∧
   (p.all (fun x=>q0v x p.length ps)=true∧(y.1 = .exit 0∧y.2.1.marks=[]∧y.2.2=[]∧Ev.look y.2.1.vars 0=some (.fsl ((p).map OpI.r) c)∧Ev.look y.2.1.vars 2=some (ii lps)∧Ev.look y.2.1.vars 3=some (ii look)) ∨
   p.all (fun x=>q0v x p.length ps)=false ∧ ∃x,p.find? (fun x => !q0v x p.length ps)=some x∧(y.1 = .ret∧y.2.1.marks=[]∧y.2.2=[]∧Ev.look y.2.1.vars 8=some (ii 22))):=by
 refine qgl p (fun i=>⟨[(0,(.fsl ((p).map OpI.r) c)),(1,(ii ps)),(2,(ii lps)),(3,(ii look)),(9,(ii i))],[]⟩) [] (fun x=>q0v x p.length ps) _ (fun _ y => _) ?_ ?_ ?_
 ·intro i x hi hx hp
  have hi':(i:Int)<(p.length:Int):=by omega
  have hw:IntKind.i64.wrap ((i:Int)+1)=((i+1:Nat):Int):=by rw[qi (by omega) (by omega)];simp
  simp only[qlw,zgs,zgr,zgq,zgt,OpI.r,hx,hi',hw,qv3,hp,qia,Ev.ev1,qb,zgy,↓qc,↓reduceIte,Nat.reduceAdd,Nat.reduceEqDiff,reduceCtorEq]
 ·intro i x hi hx hp
  have hi':(i:Int)<(p.length:Int):=by omega
  simp only[qlw,zgs,zgr,zgq,zgt,OpI.r,hx,hi',qv3,hp,Ev.ev1,qb,zgy,↓qc,↓reduceIte,Nat.reduceAdd,Nat.reduceEqDiff,reduceCtorEq]
  exact⟨_,rfl,rfl,rfl,rfl,rfl⟩
 ·simp only[qlw,Int.lt_irrefl,Ev.ev1,zgy,↓qc,↓reduceIte,Nat.reduceEqDiff,reduceCtorEq]
  exact⟨_,rfl,rfl,rfl,rfl,rfl,rfl,rfl⟩
theorem q96 (hl:p.length≤16) :
  ∃y,itB (exec (evL T) itL none qje) (qai [0,2,3,10] true 0) ⟨[(0,(.fsl ((p).map OpI.r) c)),(2,(ii lps)),(3,(ii look)),(10,(ii 0))],[]⟩ []=some y ∧
   (p.all (qagc lps)=true∧(y.1 = .exit 2∧y.2.1.marks=[]∧y.2.2=[]∧Ev.look y.2.1.vars 0=some (.fsl ((p).map OpI.r) c)∧Ev.look y.2.1.vars 3=some (ii look)) ∨
   p.all (qagc lps)=false ∧ ∃x,p.find? (fun x => !qagc lps x)=some x∧(y.1 = .ret∧y.2.1.marks=[]∧y.2.2=[]∧Ev.look y.2.1.vars 8=some (ii 23))):=by
 refine qgl p (fun i=>⟨[(0,(.fsl ((p).map OpI.r) c)),(2,(ii lps)),(3,(ii look)),(10,(ii i))],[]⟩) [] (qagc lps) _ (fun _ y => _) ?_ ?_ ?_
 ·intro i x hi hx hp
  have hi':(i:Int)<(p.length:Int):=by omega
  have hw:IntKind.i64.wrap ((i:Int)+1)=((i+1:Nat):Int):=by rw[qi (by omega) (by omega)];simp
  by_cases h1:x.code=2
  ·have h2:¬x.a≥lps:=by simpa[qagc,h1]using hp
   simp only[qje,zgs,zgr,zgq,zgt,OpI.r,hx,hi',hw,h1,h2,qia,Ev.ev1,qb,zgy,↓qc,↓reduceIte,Nat.reduceAdd,Nat.reduceEqDiff,reduceCtorEq]
  ·simp only[qje,zgs,zgr,zgq,zgt,OpI.r,hx,hi',hw,h1,qia,Ev.ev1,qb,zgy,↓qc,↓reduceIte,Nat.reduceAdd,Nat.reduceEqDiff,reduceCtorEq]
 ·intro i x hi hx hp
  have hi':(i:Int)<(p.length:Int):=by omega
  have h1:x.code=2:=by
   by_cases h1:x.code=2
   ·exact h1
   ·simp[qagc,h1]at hp
  have h2:x.a≥lps:=by simpa[qagc,h1]using hp
  simp only[qje,zgs,zgr,zgq,zgt,OpI.r,hx,hi',h1,h2,Ev.ev1,qb,zgy,↓qc,↓reduceIte,Nat.reduceAdd,Nat.reduceEqDiff,reduceCtorEq]
  exact⟨_,rfl,rfl,rfl,rfl,rfl⟩
 ·simp only[qje,Int.lt_irrefl,Ev.ev1,zgy,↓qc,↓reduceIte,Nat.reduceEqDiff,reduceCtorEq]
  exact⟨_,rfl,rfl,rfl,rfl,rfl,rfl⟩
theorem qaaf (hl:p.length≤16) :
  ∃y,itB (exec (evL T) itL none qjf) (qai [0,3,11] true 0) ⟨[(0,(.fsl ((p).map OpI.r) c)),(3,(ii look)),(11,(ii 0))],[]⟩ []=some y ∧
   (p.all (qry look)=true∧(y.1 = .exit 4∧y.2.1.marks=[]∧y.2.2=[]) ∨
   p.all (qry look)=false ∧ ∃x,p.find? (fun x => !qry look x)=some x∧(y.1 = .ret∧y.2.1.marks=[]∧y.2.2=[]∧Ev.look y.2.1.vars 8=some (ii 21))):=by
 refine qgl p (fun i=>⟨[(0,(.fsl ((p).map OpI.r) c)),(3,(ii look)),(11,(ii i))],[]⟩) [] (qry look) _ (fun _ y => _) ?_ ?_ ?_
 ·intro i x hi hx hp
  have hi':(i:Int)<(p.length:Int):=by omega
  have hw:IntKind.i64.wrap ((i:Int)+1)=((i+1:Nat):Int):=by rw[qi (by omega) (by omega)];simp
  by_cases h1:x.code=2
  ·have h2:¬x.c<look:=by simpa[qry,h1]using hp
   simp only[qjf,zgs,zgr,zgq,zgt,OpI.r,hx,hi',hw,h1,h2,qia,Ev.ev1,qb,zgy,↓qc,↓reduceIte,Nat.reduceAdd,Nat.reduceEqDiff,reduceCtorEq]
  ·simp only[qjf,zgs,zgr,zgq,zgt,OpI.r,hx,hi',hw,h1,qia,Ev.ev1,qb,zgy,↓qc,↓reduceIte,Nat.reduceAdd,Nat.reduceEqDiff,reduceCtorEq]
 ·intro i x hi hx hp
  have hi':(i:Int)<(p.length:Int):=by omega
  have h1:x.code=2:=by
   by_cases h1:x.code=2
   ·exact h1
   ·simp[qry,h1]at hp
  have h2:x.c<look:=by simpa[qry,h1]using hp
  simp only[qjf,zgs,zgr,zgq,zgt,OpI.r,hx,hi',h1,h2,Ev.ev1,qb,zgy,↓qc,↓reduceIte,Nat.reduceAdd,Nat.reduceEqDiff,reduceCtorEq]
  exact⟨_,rfl,rfl,rfl,rfl,rfl⟩
 ·simp only[qjf,Int.lt_irrefl,Ev.ev1,zgy,↓qc,↓reduceIte,Nat.reduceEqDiff,reduceCtorEq]
  exact⟨_,rfl,rfl,rfl,rfl⟩
theorem q0k:qac (evL T) qk7 [(.fsl ((p).map OpI.r) c),(ii ps),(ii lps),(ii look)]=some (ii (qqp p ps lps look)):=by
 have h0:=q98 p c
 rw[qac,qe q8w q6o]
 cases hs:qxc p with
 |false=>
  rw[hs]at h0
  simp only[qjr,qqp,h0,hs,qia,Ev.ev1,qh,zgy,↓qc,↓reduceIte,Nat.reduceAdd,reduceCtorEq]
 |true=>
  rw[hs]at h0
  have hl:p.length≤16:=by simp only[qxc,Bool.and_eq_true,decide_eq_true_eq]at hs;exact hs.1.2
  obtain⟨⟨y1,e1,σ1⟩,k1,k2⟩:=qaax p c ps lps look hl
  obtain⟨⟨y2,e2,σ2⟩,m1,m2⟩:=q96 p c lps look hl
  obtain⟨⟨y3,e3,σ3⟩,n1,n2⟩:=qaaf p c look hl
  simp only at k2 m2 n2
  rcases k2 with ⟨q1,rfl,q2,rfl,q3,q4,q5⟩|⟨q1,x,_,rfl,q2,rfl,q3⟩
  ·rcases m2 with ⟨r1,rfl,r2,rfl,r3,r4⟩|⟨r1,x,_,rfl,r2,rfl,r3⟩
   ·rcases n2 with ⟨t1,rfl,t2,rfl⟩|⟨t1,x,_,rfl,t2,rfl,t3⟩
    ·simp only[qjr,qqp,h0,hs,k1,q1,q2,q3,q4,q5,m1,r1,r2,r3,r4,n1,t1,t2,qia,Ev.ev1,qh,zgy,↓qc,↓qv,↓reduceIte,Nat.reduceAdd,Nat.reduceEqDiff,reduceCtorEq]
    ·simp only[qjr,qqp,h0,hs,k1,q1,q2,q3,q4,q5,m1,r1,r2,r3,r4,n1,t1,t2,t3,qia,Ev.ev1,qh,zgy,↓qc,↓qv,↓reduceIte,Nat.reduceAdd,Nat.reduceEqDiff,reduceCtorEq]
   ·simp only[qjr,qqp,h0,hs,k1,q1,q2,q3,q4,q5,m1,r1,r2,r3,qia,Ev.ev1,qh,zgy,↓qc,↓qv,↓reduceIte,Nat.reduceAdd,Nat.reduceEqDiff,reduceCtorEq]
  ·simp only[qjr,qqp,h0,hs,k1,q1,q2,q3,qia,Ev.ev1,qh,zgy,↓qc,↓qv,↓reduceIte,Nat.reduceAdd,Nat.reduceEqDiff,reduceCtorEq]
end
set_option maxRecDepth 10000
structure Pr where
 prog:Int
 pc:Int
 alive:Bool
 timer:List Int
 deriving DecidableEq
def Pr.r (x:Pr):List AV:=[(ii x.prog),(ii x.pc),(bb x.alive),(.fsl ((x.timer).map qa0) false)]
theorem pr_lo (n:Nat) (x:Pr):los n x.r=true:=by simp only[Pr.r,qm,Ev.ev1,zgy]
theorem pr_pl (x:Pr):x.r.length=4∧qfx x.r=true:=⟨rfl,rfl⟩
theorem qa3 (n:Nat) (l:List Pr):qc5 n (l.map Pr.r)=true:=qjy (pr_lo n) l
theorem procs_ok (l:List Pr):qcy 4 (l.map Pr.r)=true:=qo9 pr_pl l
structure Evt where
 time:Int
 key:List Int
 lp:Int
 kind:Int
 proc:Int
 arg:Int
 deriving DecidableEq
def Evt.r (x:Evt):List AV:=[(ii x.time),(.fsl ((x.key).map qa0) false),(ii x.lp),(ii x.kind),(ii x.proc),(ii x.arg)]
theorem qagj (n:Nat) (x:Evt):los n x.r=true:=by simp only[Evt.r,qm,Ev.ev1,zgy]
theorem evt_pl (x:Evt):x.r.length=6∧qfx x.r=true:=⟨rfl,rfl⟩
theorem qq (n:Nat) (l:List Evt):qc5 n (l.map Evt.r)=true:=qjy (qagj n) l
theorem qow (l:List Evt):qcy 6 (l.map Evt.r)=true:=qo9 evt_pl l
structure Lp where
 r0:Int
 r1:Int
 procs:List Pr
 sum:Int
 deriving DecidableEq
structure Ex where
 r0:Int
 r1:Int
 procs:List Pr
 sum:Int
 ev:Evt
 out:List Evt
 n:Int
 gone:List (List Int)
 over:Bool
def Ex.kid (x:Ex):List Int:=x.ev.key++[x.n]
def Ex.create (x : Ex) (d : Int) (e : Evt) : Ex :=
  { x with n := w64 (x.n + 1), out := if w64 (x.ev.time + d) > 1152921504606846976 then x.out else x.out ++ [⟨w64 (x.ev.time + d), x.kid, e.lp, e.kind, e.proc, e.arg⟩],
           over := if w64 (x.ev.time + d) > 1152921504606846976 then true else x.over }
structure Ex.Small (x:Ex):Prop where
 procs:x.procs.length≤1000
 out:x.out.length≤1000
 gone:x.gone.length≤1000
 key:x.ev.key.length≤100000
theorem qacm (l:List Int):qx4 (l.map qa0) (l.map qa0)=true:=qyi (fun x=>by simp only[qa0,Ev.ev1,zgy]) l
theorem eq_procs (l:List Pr):qx4 (l.map Pr.r) (l.map Pr.r)=true:=qyi (fun x=>by simp only[Pr.r,qacm,Ev.ev1,zgy]) l
theorem eq_evts (l:List Evt):qx4 (l.map Evt.r) (l.map Evt.r)=true:=qyi (fun x=>by simp only[Evt.r,qacm,Ev.ev1,zgy]) l
theorem eq_keys (l:List (List Int)):qx4 (l.map qna) (l.map qna)=true:=qyi (fun x=>by simp only[qna,qacm,Ev.ev1,zgy]) l
set_option maxRecDepth 10000
def qv6 (a b:Int):Int:=if a<b then -1 else if a>b then 1 else 0
theorem qxd (a b:Int):qac (evL T) qhu [(ii a),(ii b)]=some (ii (qv6 a b)):=by
 rw[qac,qe q4g q3k]
 by_cases h1:a<b
 ·simp only[qkk,qv6,h1,Ev.ev1,qh,zgy,↓qc,↓reduceIte,Nat.reduceAdd,Nat.reduceEqDiff,Int.reduceNeg,reduceCtorEq]
 by_cases h2:a>b
 ·simp only[qkk,qv6,h1,h2,Ev.ev1,qh,zgy,↓qc,↓reduceIte,Nat.reduceAdd,Nat.reduceEqDiff,Int.reduceNeg,reduceCtorEq]
 ·simp only[qkk,qv6,h1,h2,Ev.ev1,qh,zgy,↓qc,↓reduceIte,Nat.reduceAdd,Nat.reduceEqDiff,Int.reduceNeg,reduceCtorEq]
def qoa:List Int→List Int→Int
 |x::a,y::b=>if x=y then qoa a b else qv6 x y
 | [],b=>if b.length=0 then 0 else -1
 | _ :: _,[]=>1
theorem q4d : ∀a b:List Int,((a.zip b).all (fun z=>decide (z.1=z.2))=true→qoa a b=qv6 a.length b.length) ∧ ∀x,(a.zip b).find? (fun z => !decide (z.1=z.2))=some x→qoa a b=qv6 x.1 x.2
 | [],b=>by
  refine⟨fun _ => ?_,fun x h=>by simp at h⟩
  cases b with
  |nil=>rfl
  |cons y b=>
   have:((0:Nat):Int)<((y::b).length:Int):=by simp only[zga];omega
   simp only[qoa,zga,Nat.succ_ne_zero,if_false,qv6,zgb]
   rw[if_pos (by omega)]
 |x::a,[]=>by
  refine⟨fun _ => ?_,fun x h=>by simp at h⟩
  simp only[qoa,qv6,zga,zgb]
  rw[if_neg (by omega),if_pos (by omega)]
 |x::a,y::b=>by
  obtain⟨h1,h2⟩:=q4d a b
  simp only[List.zip_cons_cons,List.all_cons,List.find?_cons,qoa,zga]
  by_cases h:x=y
  ·simp only[h,zgv,Bool.true_and,if_true,Bool.not_true]
   refine⟨fun k => ?_,h2⟩
   rw[h1 k];unfold qv6
   have e1:((a.length:Int)<b.length)↔(((a.length+1:Nat):Int)<((b.length+1:Nat):Int)):=by omega
   have e2:((a.length:Int)>b.length)↔(((a.length+1:Nat):Int)>((b.length+1:Nat):Int)):=by omega
   simp only[e1,e2]
  ·simp only[h,zgw,Bool.false_and,if_false,Bool.not_false]
   exact⟨fun k=>by simp at k,fun z k=>by simp at k;rw[←k]⟩
theorem q9n (a b:Int):qv6 a b=0↔a=b:=by
 unfold qv6;split
 ·constructor<;>intro h<;>omega
 split
 ·constructor<;>intro h<;>omega
 ·constructor<;>intro h<;>omega
theorem q4j : ∀a b:List Int,qoa a b=0↔a=b
 | [],[]=>by simp[qoa]
 | [],y::b=>by simp[qoa]
 |x::a,[]=>by simp[qoa]
 |x::a,y::b=>by
  simp only[qoa,List.cons.injEq]
  split
  next h=>rw[q4j a b];simp[h]
  next h=>rw[q9n];simp[h]
section
variable (a b:List Int) (c d:Bool)
theorem qade (h1:a.length≤9223372036854775807) (h2:b.length≤9223372036854775807) :
  ∃y,itB (exec (evL T) itL none qfh) (qai [0,1,5] true 0) ⟨[(0,(.fsl ((a).map qa0) c)),(1,(.fsl ((b).map qa0) d)),(5,(ii 0))],[]⟩ []=some y ∧
   ((a.zip b).all (fun z=>decide (z.1=z.2))=true∧(y.1 = .exit 0∧y.2.1.marks=[]∧y.2.2=[]∧Ev.look y.2.1.vars 0=some (.fsl ((a).map qa0) c)∧Ev.look y.2.1.vars 1=some (.fsl ((b).map qa0) d)) ∨
   (a.zip b).all (fun z=>decide (z.1=z.2))=false ∧ ∃x,(a.zip b).find? (fun z => !decide (z.1=z.2))=some x∧(y.1 = .ret∧y.2.1.marks=[]∧y.2.2=[]∧Ev.look y.2.1.vars 4=some (ii (qv6 x.1 x.2)))):=by
 have hzl:(a.zip b).length=min a.length b.length:=List.length_zip
 refine qgl (a.zip b) (fun i=>⟨[(0,(.fsl ((a).map qa0) c)),(1,(.fsl ((b).map qa0) d)),(5,(ii i))],[]⟩) [] (fun z=>decide (z.1=z.2)) _ (fun x y => _) ?_ ?_ ?_
 ·intro i x hi hx hp
  rw[hzl]at hi
  have hi':(i:Int)<(a.length:Int):=by omega
  have hi2:(i:Int)<(b.length:Int):=by omega
  have hw:IntKind.i64.wrap ((i:Int)+1)=((i+1:Nat):Int):=by rw[qi (by omega) (by omega)];simp
  obtain⟨hxa,hxb⟩:=List.getElem?_zip_eq_some.1 hx
  have hp':=of_decide_eq_true hp
  simp only[qfh,zgs,zgr,zgq,zgt,hxa,hxb,hi',hi2,hw,hp',qm,qa0,Ev.ev1,qb,ne_eq,zgy,↓qc,↓reduceIte,Nat.reduceEqDiff,reduceCtorEq]
 ·intro i x hi hx hp
  rw[hzl]at hi
  have hi':(i:Int)<(a.length:Int):=by omega
  have hi2:(i:Int)<(b.length:Int):=by omega
  obtain⟨hxa,hxb⟩:=List.getElem?_zip_eq_some.1 hx
  have hp':¬x.1=x.2:=of_decide_eq_false hp
  have hc:=qxd x.1 x.2
  simp only[qfh,zgs,zgr,zgq,zgt,hxa,hxb,hi',hi2,hp',hc,qa0,Ev.ev1,qb,ne_eq,zgy,↓qc,↓reduceIte,Nat.reduceEqDiff,reduceCtorEq]
  exact⟨_,rfl,rfl,rfl,rfl,rfl⟩
 ·rw[hzl]
  by_cases hab:a.length≤b.length
  ·rw[Nat.min_eq_left hab]
   simp only[qfh,Int.lt_irrefl,Ev.ev1,zgy,↓qc,↓reduceIte,Nat.reduceEqDiff,reduceCtorEq]
   exact⟨_,rfl,rfl,rfl,rfl,rfl,rfl⟩
  ·rw[Nat.min_eq_right (by omega)]
   have h3:(b.length:Int)<(a.length:Int):=by omega
   simp only[qfh,Int.lt_irrefl,h3,Ev.ev1,zgy,↓qc,↓reduceIte,Nat.reduceEqDiff,reduceCtorEq]
   exact⟨_,rfl,rfl,rfl,rfl,rfl,rfl⟩
theorem qaaz (h1:a.length≤9223372036854775807) (h2:b.length≤9223372036854775807):qac (evL T) qf5 [(.fsl ((a).map qa0) c),(.fsl ((b).map qa0) d)]=some (ii (qoa a b)):=by
 obtain⟨⟨y,e,σ⟩,k1,k2⟩:=qade a b c d h1 h2
 simp only at k2
 obtain⟨z1,z2⟩:=q4d a b
 rw[qac,qe qyf qxn]
 rcases k2 with ⟨k3,rfl,k4,rfl,k5,k6⟩|⟨k3,x,k7,rfl,k4,rfl,k5⟩
 ·have hc:=qxd a.length b.length
  rw[z1 k3]
  simp only[qiy,k1,k4,k5,k6,hc,qm,Ev.ev1,qh,zgy,↓qc,↓qv,↓reduceIte,Nat.reduceAdd,Nat.reduceEqDiff,reduceCtorEq]
 ·rw[z2 x k7]
  simp only[qiy,k1,k4,k5,qm,Ev.ev1,qh,zgy,↓qc,↓qv,↓reduceIte,Nat.reduceAdd,Nat.reduceEqDiff,reduceCtorEq]
theorem q4l (h1:a.length≤9223372036854775807) (h2:b.length≤9223372036854775807):qac (evL T) qhr [(.fsl ((a).map qa0) c),(.fsl ((b).map qa0) d)]=some (bb (decide (a=b))):=by
 have hk:=qaaz a b c d h1 h2
 have hz:=q4j a b
 rw[qac,qe q5i q3n]
 by_cases h:a=b
 ·have h3:=hz.2 h
  rw[h3]at hk
  simp only[h,zgv]
  simp only[h]at hk
  simp only[qmt,hk,qm,Ev.ev1,qh,zgy,↓qc,↓reduceIte,Nat.reduceAdd,Nat.reduceEqDiff,reduceCtorEq]
 ·have h3:¬qoa a b=0:=fun k=>h (hz.1 k)
  simp only[h,zgw]
  simp only[qmt,hk,h3,qm,Ev.ev1,qh,zgy,↓qc,↓reduceIte,Nat.reduceAdd,Nat.reduceEqDiff,reduceCtorEq]
end
theorem q5x (x y:Evt) (hx:x.key.length≤9223372036854775807) (hy:y.key.length≤9223372036854775807):qac (evL T) qhc [(.agg [(ii x.time),(.fsl ((x.key).map qa0) false),(ii x.lp),(ii x.kind),(ii x.proc),(ii x.arg)]),(.agg [(ii y.time),(.fsl ((y.key).map qa0) false),(ii y.lp),(ii y.kind),(ii y.proc),(ii y.arg)])]=some (bb (decide (x=y))):=by
 obtain⟨xt,xk,xl,xi,xp,xa⟩:=x
 obtain⟨yt,yk,yl,yi,yp,ya⟩:=y
 have hk:=q4l xk yk false false hx hy
 simp only[Evt.mk.injEq]
 rw[qac,qe q1i qz9]
 by_cases h1:xt=yt
 case neg=>simp only[qd9,h1,false_and,zgw,Ev.ev1,qb,Ev.AV.cells,Ev.AV.plain,qh,ne_eq,zgy,↓qc,↓reduceIte,Nat.reduceAdd,Nat.reduceEqDiff,reduceCtorEq]
 by_cases h2:xk=yk
 case neg=>
  simp only[h2,zgw]at hk
  simp only[qd9,h1,h2,hk,qm,false_and,and_false,zgw,Ev.ev1,qb,Ev.AV.cells,Ev.AV.plain,qh,ne_eq,zgy,↓qc,↓reduceIte,Nat.reduceAdd,Nat.reduceEqDiff,reduceCtorEq]
 simp only[h2,zgv]at hk
 by_cases h3:xl=yl
 case neg=>simp only[qd9,h1,h2,h3,hk,qm,false_and,and_false,zgw,Ev.ev1,qb,Ev.AV.cells,Ev.AV.plain,qh,ne_eq,zgy,↓qc,↓reduceIte,Nat.reduceAdd,Nat.reduceEqDiff,reduceCtorEq]
 by_cases h4:xi=yi
 case neg=>simp only[qd9,h1,h2,h3,h4,hk,qm,false_and,and_false,zgw,Ev.ev1,qb,Ev.AV.cells,Ev.AV.plain,qh,ne_eq,zgy,↓qc,↓reduceIte,Nat.reduceAdd,Nat.reduceEqDiff,reduceCtorEq]
 by_cases h5:xp=yp
 case neg=>simp only[qd9,h1,h2,h3,h4,h5,hk,qm,false_and,and_false,zgw,Ev.ev1,qb,Ev.AV.cells,Ev.AV.plain,qh,ne_eq,zgy,↓qc,↓reduceIte,Nat.reduceAdd,Nat.reduceEqDiff,reduceCtorEq]
 by_cases h6:xa=ya
 case neg=>simp only[qd9,h1,h2,h3,h4,h5,h6,hk,qm,and_false,zgw,Ev.ev1,qb,Ev.AV.cells,Ev.AV.plain,qh,ne_eq,zgy,↓qc,↓reduceIte,Nat.reduceAdd,Nat.reduceEqDiff,reduceCtorEq]
 simp only[qd9,h1,h2,h3,h4,h5,h6,hk,qm,zgx,zgv,Ev.ev1,qb,Ev.AV.cells,Ev.AV.plain,qh,ne_eq,zgy,↓qc,↓reduceIte,Nat.reduceAdd,Nat.reduceEqDiff,reduceCtorEq]
theorem qrr {α:Type} [DecidableEq α] : ∀ {a b:List α},a.length=b.length→((a.zip b).all (fun z=>decide (z.1=z.2))=true↔a=b)
 | [],[],_=>by simp
 |x::a,y::b,h=>by
  rw[List.zip_cons_cons,List.all_cons,Bool.and_eq_true,decide_eq_true_eq,qrr (a:=a) (b:=b) (by simpa using h),List.cons.injEq]
 | [],_ :: _,h=>by simp at h
 | _ :: _,[],h=>by simp at h
section
variable (a b:List Evt) (c d:Bool)
theorem q2c (h1:a.length≤9223372036854775807) (h2:b.length≤9223372036854775807) (ha : ∀x∈a,x.key.length≤9223372036854775807) (hb : ∀x∈b,x.key.length≤9223372036854775807) :
  qac (evL T) qfc [(.fsl ((a).map Evt.r) c),(.fsl ((b).map Evt.r) d)]=some (bb (decide (a=b))):=by
 rw[qac,qe q0b qyj]
 by_cases hab:a.length=b.length
 case neg=>
  have hab':¬(a.length:Int)=(b.length:Int):=by omega
  have:¬a=b:=fun h=>hab (by rw[h])
  simp only[qhx,hab',this,Ev.ev1,qh,ne_eq,zgy,↓qc,↓reduceIte,Nat.reduceAdd,Nat.reduceEqDiff,reduceCtorEq]
 have hab':(a.length:Int)=(b.length:Int):=by omega
 have hzl:(a.zip b).length=a.length:=by rw[List.length_zip,←hab,Nat.min_self]
 have hL : ∃y,itB (exec (evL T) itL none qhs) (qai [0,1,5] true 0) ⟨[(0,(.fsl ((a).map Evt.r) c)),(1,(.fsl ((b).map Evt.r) d)),(5,(ii 0))],[]⟩ []=some y∧((a.zip b).all (fun z=>decide (z.1=z.2))=true∧(y.1 = .exit 0∧y.2.1.marks=[]∧y.2.2=[]) ∨
   (a.zip b).all (fun z=>decide (z.1=z.2))=false ∧ ∃x,(a.zip b).find? (fun z => !decide (z.1=z.2))=some x∧(y.1 = .ret∧y.2.1.marks=[]∧y.2.2=[]∧Ev.look y.2.1.vars 4=some (bb false))):=by
  refine qgl (a.zip b) (fun i=>⟨[(0,(.fsl ((a).map Evt.r) c)),(1,(.fsl ((b).map Evt.r) d)),(5,(ii i))],[]⟩) [] (fun z=>decide (z.1=z.2)) _ (fun _ y => _) ?_ ?_ ?_
  ·intro i x hi hx hp
   rw[hzl]at hi
   have hi':(i:Int)<(a.length:Int):=by omega
   have hw:IntKind.i64.wrap ((i:Int)+1)=((i+1:Nat):Int):=by rw[qi (by omega) (by omega)];simp
   obtain⟨hxa,hxb⟩:=List.getElem?_zip_eq_some.1 hx
   have hv:=q5x x.1 x.2 (ha _ (zmg hxa)) (hb _ (zmg hxb))
   rw[hp]at hv
   simp only[qhs,zgs,zgr,zgq,zgt,hxa,hxb,hi',hw,hv,qq,qm,Evt.r,Ev.ev1,qb,zgy,↓qc,↓reduceIte,Nat.reduceAdd,Nat.reduceEqDiff,reduceCtorEq]
  ·intro i x hi hx hp
   rw[hzl]at hi
   have hi':(i:Int)<(a.length:Int):=by omega
   obtain⟨hxa,hxb⟩:=List.getElem?_zip_eq_some.1 hx
   have hv:=q5x x.1 x.2 (ha _ (zmg hxa)) (hb _ (zmg hxb))
   rw[hp]at hv
   simp only[qhs,zgs,zgr,zgq,zgt,hxa,hxb,hi',hv,qm,Evt.r,Ev.ev1,qb,zgy,↓qc,↓reduceIte,Nat.reduceAdd,Nat.reduceEqDiff,reduceCtorEq]
   exact⟨_,rfl,rfl,rfl,rfl,rfl⟩
  ·rw[hzl]
   simp only[qhs,Int.lt_irrefl,Ev.ev1,zgy,↓qc,↓reduceIte,Nat.reduceEqDiff,reduceCtorEq]
   exact⟨_,rfl,rfl,rfl,rfl⟩
 obtain⟨⟨y,e,σ⟩,k1,k2⟩:=hL
 simp only at k2
 rcases k2 with ⟨k3,rfl,k4,rfl⟩|⟨k3,x,_,rfl,k4,rfl,k5⟩
 ·have:a=b:=(qrr hab).1 k3
  subst this
  simp only[qhx,k1,k4,qq,Ev.ev1,qh,ne_eq,zgy,↓qc,↓qv,↓reduceIte,Nat.reduceAdd,Nat.reduceEqDiff,reduceCtorEq]
 ·have:¬a=b:=fun h=>by rw[(qrr hab).2 h]at k3;cases k3
  simp only[this]
  simp only[qhx,hab',k1,k4,k5,qq,Ev.ev1,qh,ne_eq,zgy,↓qc,↓qv,↓reduceIte,Nat.reduceAdd,Nat.reduceEqDiff,reduceCtorEq]
end
set_option maxRecDepth 10000
theorem qad4 (a:Int):qac (evL T) qho [(ii a)]=some (bb false):=by
 rw[qac,qe q47 q1y]
 simp only[qoi,Ev.ev1,qh,ne_eq,zgy,↓qc,↓reduceIte,Nat.reduceEqDiff,reduceCtorEq]
theorem qni (a b:Int):qac (evL T) qge [(ii a),(ii b)]=some (ii (qv6 a b)):=by
 have h0:=qad4
 rw[qac,qe q0u qz3]
 by_cases h1:a<b
 ·simp only[qis,qv6,h0,h1,Ev.ev1,qh,zgy,↓qc,↓reduceIte,Nat.reduceAdd,Nat.reduceEqDiff,Int.reduceNeg,reduceCtorEq]
 by_cases h2:a>b
 ·simp only[qis,qv6,h0,h1,h2,Ev.ev1,qh,zgy,↓qc,↓reduceIte,Nat.reduceAdd,Nat.reduceEqDiff,Int.reduceNeg,reduceCtorEq]
 ·simp only[qis,qv6,h0,h1,h2,Ev.ev1,qh,zgy,↓qc,↓reduceIte,Nat.reduceAdd,Nat.reduceEqDiff,Int.reduceNeg,reduceCtorEq]
theorem qalo (x z:Int) (c:Bool):qac (evL T) qmo [(.fsl (([x,z]).map qa0) c)]=some (ii (if x=0 then z else x)):=by
 have hL : ∃y,itB (exec (evL T) itL none qmr) (qai [3,6,7,8] true 0) ⟨[(3,(ii 0)),(6,(.fsl (([x,z]).map qa0) c)),(7,(ii 2)),(8,(ii 0))],[]⟩ []=some y∧([x,z].all (fun v=>decide (v=0))=true∧(y.1 = .exit 0∧y.2.1.marks=[]∧y.2.2=[]∧Ev.look y.2.1.vars 3=some (ii 0)) ∨
   [x,z].all (fun v=>decide (v=0))=false ∧ ∃v,[x,z].find? (fun v => !decide (v=0))=some v∧(y.1 = .ret∧y.2.1.marks=[]∧y.2.2=[]∧Ev.look y.2.1.vars 2=some (ii v))):=by
  refine qgl [x,z] (fun i=>⟨[(3,(ii 0)),(6,(.fsl (([x,z]).map qa0) c)),(7,(ii 2)),(8,(ii i))],[]⟩) [] (fun v=>decide (v=0)) _ (fun v y => _) ?_ ?_ ?_
  ·intro i v hi hv hp
   have hi2:(i:Int)<2:=by simp at hi;omega
   have hw:IntKind.i64.wrap ((i:Int)+1)=((i+1:Nat):Int):=by rw[qi (by omega) (by omega)];simp
   have hp':=of_decide_eq_true hp
   subst hp'
   have hl:=qm 0 [x,z]
   generalize [x,z]=l at hv hl⊢
   simp only[qmr,zgs,zgr,zgq,zgt,hv,hl,hi2,hw,qa0,Ev.ev1,qb,ne_eq,zgy,↓qc,↓reduceIte,Nat.reduceEqDiff]
  ·intro i v hi hv hp
   have hi2:(i:Int)<2:=by simp at hi;omega
   have hp':¬v=0:=of_decide_eq_false hp
   have hl:=qm 0 [x,z]
   generalize [x,z]=l at hv hl⊢
   simp only[qmr,zgs,zgr,zgq,zgt,hv,hi2,hp',qa0,Ev.ev1,qb,ne_eq,zgy,↓qc,↓reduceIte,Nat.reduceEqDiff]
   exact⟨_,rfl,rfl,rfl,rfl,rfl⟩
  ·have hl:=qm 0 [x,z]
   rw[show ([x,z]:List Int).length=2 from rfl]
   simp only[qmr,Int.lt_irrefl,Int.cast_ofNat_Int,Ev.ev1,zgy,↓qc,↓reduceIte,Nat.reduceEqDiff]
   exact⟨_,rfl,rfl,rfl,rfl,rfl⟩
 obtain⟨⟨y,e,σ⟩,k1,k2⟩:=hL
 simp only at k2
 have hl:=qm 0 [x,z]
 have hn:([x,z].map qa0).length=2:=rfl
 rw[qac,qe qaaj q83]
 rcases k2 with ⟨k3,rfl,k4,rfl,k5⟩|⟨k3,v,k6,rfl,k4,rfl,k5⟩
 ·have h1:x=0∧z=0:=by simpa using k3
  have h2:(if x=0 then z else x)=0:=by rw[if_pos h1.1,h1.2]
  rw[h2]
  generalize [x,z].map qa0=l at k1 hl hn⊢
  simp only[qp7,hn,Int.cast_ofNat_Int,k1,k4,k5,hl,Ev.ev1,qh,zgy,↓qc,↓qv,↓reduceIte,Nat.reduceEqDiff,reduceCtorEq]
 ·have h1:(if x=0 then z else x)=v:=by
   rw[List.find?_cons]at k6
   by_cases hx:x=0
   ·rw[if_pos hx];simp[hx]at k6;exact k6.2
   ·rw[if_neg hx];simp[hx]at k6;exact k6
  rw[h1]
  generalize [x,z].map qa0=l at k1 hl hn⊢
  simp only[qp7,hn,Int.cast_ofNat_Int,k1,k4,k5,hl,Ev.ev1,qh,zgy,↓qc,↓qv,↓reduceIte,Nat.reduceEqDiff,reduceCtorEq]
theorem qt9 (x z:Int) (c:Bool):qac (evL T) qk6 [(.fsl (([x,z]).map qa0) c)]=some (ii (if x=0 then z else x)):=by
 have h:=qalo x z c
 have hl:=qm 0 [x,z]
 generalize [x,z].map qa0=l at h hl⊢
 rw[qac,qe q80 q54]
 simp only[qq1,h,hl,Ev.ev1,qh,zgy,↓qc,↓reduceIte,reduceCtorEq]
section
variable (a b:List Int) (c d:Bool)
theorem q64 (h1:a.length≤9223372036854775807) (h2:b.length≤9223372036854775807) :
  ∃y,itB (exec (evL T) itL none qdc) (qai [0,1,9,10,11] true 0) ⟨[(0,(.fsl ((a).map qa0) c)),(1,(.fsl ((b).map qa0) d)),(9,(.fsl ((a).map qa0) c)),(10,(ii a.length)),(11,(ii 0))],[]⟩ []=some y ∧
   ((a.zip b).all (fun z=>decide (z.1=z.2))=true∧(a.length≤b.length∧y.1 = .exit 0∧y.2.1.marks=[]∧y.2.2=[]∧Ev.look y.2.1.vars 0=some (.fsl ((a).map qa0) c)∧Ev.look y.2.1.vars 1=some (.fsl ((b).map qa0) d)∨b.length<a.length∧y.1 = .ret∧y.2.1.marks=[]∧y.2.2=[]∧Ev.look y.2.1.vars 4=some (ii 1)) ∨
   (a.zip b).all (fun z=>decide (z.1=z.2))=false ∧ ∃x,(a.zip b).find? (fun z => !decide (z.1=z.2))=some x∧(y.1 = .ret∧y.2.1.marks=[]∧y.2.2=[]∧Ev.look y.2.1.vars 4=some (ii (qv6 x.1 x.2)))):=by
 have hzl:(a.zip b).length=min a.length b.length:=List.length_zip
 refine qgl (a.zip b) (fun i=>⟨[(0,(.fsl ((a).map qa0) c)),(1,(.fsl ((b).map qa0) d)),(9,(.fsl ((a).map qa0) c)),(10,(ii a.length)),(11,(ii i))],[]⟩) [] (fun z=>decide (z.1=z.2)) _ (fun x y => _) ?_ ?_ ?_
 ·intro i x hi hx hp
  rw[hzl]at hi
  have hi':(i:Int)<(a.length:Int):=by omega
  have hi2:¬(i:Int)≥(b.length:Int):=by omega
  have hw:IntKind.i64.wrap ((i:Int)+1)=((i+1:Nat):Int):=by rw[qi (by omega) (by omega)];simp
  obtain⟨hxa,hxb⟩:=List.getElem?_zip_eq_some.1 hx
  have hp':=of_decide_eq_true hp
  have hc:=qni x.1 x.2
  rw[(q9n x.1 x.2).2 hp']at hc
  simp only[qdc,zgs,zgr,zgq,zgt,hxa,hxb,hi',hi2,hw,hc,qm,qa0,Ev.ev1,qb,ne_eq,zgy,↓qc,↓reduceIte,Nat.reduceEqDiff,reduceCtorEq]
 ·intro i x hi hx hp
  rw[hzl]at hi
  have hi':(i:Int)<(a.length:Int):=by omega
  have hi2:¬(i:Int)≥(b.length:Int):=by omega
  obtain⟨hxa,hxb⟩:=List.getElem?_zip_eq_some.1 hx
  have hp':¬x.1=x.2:=of_decide_eq_false hp
  have hc:=qni x.1 x.2
  have hz:¬qv6 x.1 x.2=0:=fun h=>hp' ((q9n _ _).1 h)
  simp only[qdc,zgs,zgr,zgq,zgt,hxa,hxb,hi',hi2,hz,hc,qa0,Ev.ev1,qb,ne_eq,zgy,↓qc,↓reduceIte,Nat.reduceEqDiff,reduceCtorEq]
  exact⟨_,rfl,rfl,rfl,rfl,rfl⟩
 ·rw[hzl]
  by_cases hab:a.length≤b.length
  ·rw[Nat.min_eq_left hab]
   simp only[qdc,Int.lt_irrefl,Ev.ev1,zgy,↓qc,↓reduceIte,Nat.reduceEqDiff,reduceCtorEq]
   exact⟨_,rfl,.inl ⟨hab,rfl,rfl,rfl,rfl,rfl⟩⟩
  ·rw[Nat.min_eq_right (by omega)]
   have h3:(b.length:Int)<(a.length:Int):=by omega
   obtain⟨x,hx⟩ : ∃x,a[b.length]? = some x:=⟨_,zgE (by omega)⟩
   have h4:(b.length:Int)≥(b.length:Int):=Int.le_refl _
   simp only[qdc,zgs,zgr,zgq,zgt,h3,h4,hx,qa0,Ev.ev1,qb,zgy,↓qc,↓reduceIte,Nat.reduceEqDiff,reduceCtorEq]
   exact⟨_,rfl,.inr ⟨by omega,rfl,rfl,rfl,rfl⟩⟩
theorem q4v (h1:a.length≤9223372036854775807) (h2:b.length≤9223372036854775807):qac (evL T) qc7 [(.fsl ((a).map qa0) c),(.fsl ((b).map qa0) d)]=some (ii (qoa a b)):=by
 obtain⟨⟨y,e,σ⟩,k1,k2⟩:=q64 a b c d h1 h2
 simp only at k2
 obtain⟨z1,z2⟩:=q4d a b
 rw[qac,qe qrq qq6]
 rcases k2 with ⟨k3,⟨k7,rfl,k4,rfl,k5,k6⟩|⟨k7,rfl,k4,rfl,k5⟩⟩|⟨k3,x,k7,rfl,k4,rfl,k5⟩
 ·rw[z1 k3]
  by_cases hl:(a.length:Int)<(b.length:Int)
  ·simp only[qc9,k1,k4,k5,k6,hl,qv6,qm,Ev.ev1,qh,zgy,↓qc,↓qv,↓reduceIte,Nat.reduceAdd,Nat.reduceEqDiff,Int.reduceNeg,reduceCtorEq]
  ·have hg:¬(a.length:Int)>(b.length:Int):=by omega
   simp only[qc9,k1,k4,k5,k6,hl,hg,qv6,qm,Ev.ev1,qh,zgy,↓qc,↓qv,↓reduceIte,Nat.reduceAdd,Nat.reduceEqDiff,Int.reduceNeg,reduceCtorEq]
 ·have hl:¬(a.length:Int)<(b.length:Int):=by omega
  have hg:(a.length:Int)>(b.length:Int):=by omega
  rw[z1 k3]
  simp only[qc9,k1,k4,k5,hl,hg,qv6,qm,Ev.ev1,qh,zgy,↓qc,↓qv,↓reduceIte,Nat.reduceAdd,Nat.reduceEqDiff,Int.reduceNeg,reduceCtorEq]
 ·rw[z2 x k7]
  simp only[qc9,k1,k4,k5,qm,Ev.ev1,qh,zgy,↓qc,↓qv,↓reduceIte,Nat.reduceAdd,Nat.reduceEqDiff,Int.reduceNeg,reduceCtorEq]
theorem qnd (h1:a.length≤9223372036854775807) (h2:b.length≤9223372036854775807):qac (evL T) qf1 [(.fsl ((a).map qa0) c),(.fsl ((b).map qa0) d)]=some (ii (qoa a b)):=by
 have h:=q4v a b c d h1 h2
 rw[qac,qe qym qx2]
 simp only[qli,h,qm,Ev.ev1,qh,zgy,↓qc,↓reduceIte,Nat.reduceAdd,Nat.reduceEqDiff,reduceCtorEq]
end
def qx5 (x y:Evt):Int:=if qv6 x.time y.time=0 then qoa x.key y.key else qv6 x.time y.time
theorem qm8 (x y:Evt) (hx:x.key.length≤9223372036854775807) (hy:y.key.length≤9223372036854775807) (rs:Nat) (es:List (List AV)) (g:Nat) :
  (evL T).call qd [(.agg [(ii x.time),(.fsl ((x.key).map qa0) false),(ii x.lp),(ii x.kind),(ii x.proc),(ii x.arg)]),(.agg [(ii y.time),(.fsl ((y.key).map qa0) false),(ii y.lp),(ii y.kind),(ii y.proc),(ii y.arg)])] [.row rs es g]=some ((ii (qx5 x y)),[.row rs es g]):=by
 obtain⟨xt,xk,xl,xi,xp,xa⟩:=x
 obtain⟨yt,yk,yl,yi,yp,ya⟩:=y
 have hc:=qni xt yt
 have hk:=qnd xk yk false false hx hy
 have hf:=qt9 (qv6 xt yt) (qoa xk yk) true
 simp only[List.map_cons,List.map_nil,qa0]at hf
 rw[qe qll qko]
 simp only[qgb,show ∀v:List AV,List.replicate 2 v=[v,v] from fun _=>rfl,hc,hk,hf,qx5,ite_self,qm,Ev.ev1,qb,Ev.AV.cells,Ev.AV.uc,Ev.AV.plain,qh,Ev.SObj.lo,ne_eq,zgy,↓qc,↓reduceIte,Nat.reduceAdd,Nat.reduceEqDiff,Nat.reduceMul,Nat.reduceLT,Nat.reduceLeDiff,Nat.reducePow,reduceCtorEq]
theorem qxo (x y:Evt) (hx:x.key.length≤9223372036854775807) (hy:y.key.length≤9223372036854775807) :
  qac (evL T) qd [(.agg [(ii x.time),(.fsl ((x.key).map qa0) false),(ii x.lp),(ii x.kind),(ii x.proc),(ii x.arg)]),(.agg [(ii y.time),(.fsl ((y.key).map qa0) false),(ii y.lp),(ii y.kind),(ii y.proc),(ii y.arg)])]=some (ii (qx5 x y)):=by
 obtain⟨xt,xk,xl,xi,xp,xa⟩:=x
 obtain⟨yt,yk,yl,yi,yp,ya⟩:=y
 have hc:=qni xt yt
 have hk:=qnd xk yk false false hx hy
 have hf:=qt9 (qv6 xt yt) (qoa xk yk) true
 simp only[List.map_cons,List.map_nil,qa0]at hf
 rw[qac,qe qll qko]
 simp only[qgb,show ∀v:List AV,List.replicate 2 v=[v,v] from fun _=>rfl,hc,hk,hf,qx5,qm,Ev.ev1,qb,Ev.AV.cells,Ev.AV.uc,Ev.AV.plain,qh,ne_eq,zgy,↓qc,↓reduceIte,Nat.reduceAdd,Nat.reduceEqDiff,Nat.reduceMul,Nat.reduceLT,Nat.reduceLeDiff,Nat.reducePow,reduceCtorEq]
end Go.Proofs.YtpgdfkciinankaaGreat.K
namespace Go.Ev
section
variable {α:Type}
theorem qtz {D L M:List α} {x:α} {n:Nat} (h:D=L++x::M) (hn:n=L.length):D[n]? = some x:=by
 subst h hn;simp
theorem q5m {D L X M:List α} {i n:Nat} (h:D=L++(X++M)) (hi:i<X.length) (hn:n=L.length+i):D[n]? = X[i]?:=by
 subst h hn
 rw[List.getElem?_append_right (by omega),List.getElem?_append_left (by omega)]
 congr 1;omega
theorem qado {D L M:List α} {x y:α} {n m:Nat} (h:D=L++y::x::M) (hn:n=L.length) (hm:m=n+1):(D.set m y).set n x=L++x::y::M:=by
 subst h hm hn;simp[]
theorem qah8 {D L M:List α} {x y:α} {n m:Nat} (h:D=L++y::x::M) (hn:n=L.length) (hm:m=n+1):(D.set n x).set m y=L++x::y::M:=by
 subst h hm hn;simp[]
theorem swap_far {D L M N:List α} {x y:α} {n m:Nat} (h:D=L++x::(M++y::N)) (hn:n=L.length) (hm:m=n+1+M.length):(D.set n y).set m x=L++y::(M++x::N):=by
 subst h hm hn
 rw[List.set_append,if_neg (Nat.lt_irrefl _),Nat.sub_self,List.set_cons_zero,List.set_append,if_neg (by omega),show L.length+1+M.length-L.length=M.length+1 by omega,List.set_cons_succ,List.set_append,if_neg (Nat.lt_irrefl _),Nat.sub_self,List.set_cons_zero]
variable {R:α→α→Prop}
theorem cross (tr : ∀a b c,R a b→R b c→R a c) {X Y:List α} (hX:X.Pairwise R) (hY:Y.Pairwise R) (h : ∀u v,X[X.length-1]? = some u→Y[0]? = some v→R u v) : ∀a∈X,∀b∈Y,R a b:=by
 intro a ha b hb
 obtain⟨i,hi⟩:=List.mem_iff_getElem?.1 ha
 obtain⟨j,hj⟩:=List.mem_iff_getElem?.1 hb
 obtain⟨hi',hi⟩:=List.getElem?_eq_some_iff.1 hi
 obtain⟨hj',hj⟩:=List.getElem?_eq_some_iff.1 hj
 rw[List.pairwise_iff_getElem]at hX hY
 have h0:=h _ _ (List.getElem?_eq_getElem (by omega)) (List.getElem?_eq_getElem (by omega))
 have h1:R a Y[0]:=by
  by_cases c:i=X.length-1
  ·subst c;rw[←hi];exact h0
  ·exact tr _ _ _ (by rw[←hi];exact hX i (X.length-1) hi' (by omega) (by omega)) h0
 by_cases c:j=0
 ·subst c;rw[←hj];exact h1
 ·exact tr _ _ _ h1 (by rw[←hj];exact hY 0 j (by omega) hj' (by omega))
theorem qaf3 (tr : ∀a b c,R a b→R b c→R a c) {X1 X2 Y1 Y2 Z1 Z2:List α} (hX:(X1++X2).Pairwise R) (hY:(Y1++Y2).Pairwise R)
  (h1 : ∀u v,X1[X1.length-1]? = some u→Y2[0]? = some v→R u v) (h2 : ∀u v,Y1[Y1.length-1]? = some u→X2[0]? = some v→R u v)
  (p1:Z1.Perm (X1++Y1)) (p2:Z2.Perm (X2++Y2)) (s1:Z1.Pairwise R) (s2:Z2.Pairwise R):(Z1++Z2).Perm (X1++X2++(Y1++Y2))∧(Z1++Z2).Pairwise R:=by
 obtain⟨x1,x2,x3⟩:=List.pairwise_append.1 hX
 obtain⟨y1,y2,y3⟩:=List.pairwise_append.1 hY
 have c1:=cross tr x1 y2 h1
 have c2:=cross tr y1 x2 h2
 refine⟨(p1.append p2).trans ?_,List.pairwise_append.2 ⟨s1,s2,?_⟩⟩
 ·rw[List.append_assoc,List.append_assoc]
  refine List.Perm.append_left X1 ?_
  rw[←List.append_assoc,←List.append_assoc]
  exact List.Perm.append_right Y2 List.perm_append_comm
 ·intro a ha b hb
  rw[p1.mem_iff,List.mem_append]at ha
  rw[p2.mem_iff,List.mem_append]at hb
  rcases ha with ha|ha<;>rcases hb with hb|hb
  ·exact x3 a ha b hb
  ·exact c1 a ha b hb
  ·exact c2 a ha b hb
  ·exact y3 a ha b hb
theorem qtm (tr : ∀a b c,R a b→R b c→R a c) {A B:List α} {x:α} (h:(A++B).Pairwise R) (h1 : ∀u,A[A.length-1]? = some u→R u x) (h2 : ∀v,B[0]? = some v→R x v):(A++x::B).Pairwise R:=by
 obtain⟨a1,a2,a3⟩:=List.pairwise_append.1 h
 have c1:=cross tr a1 (List.pairwise_singleton R x) (fun u v hu hv=>by simp at hv;subst hv;exact h1 u hu)
 have c2:=cross tr (List.pairwise_singleton R x) a2 (fun u v hu hv=>by simp at hu;subst hu;exact h2 v hv)
 refine List.pairwise_append.2 ⟨a1,List.pairwise_cons.2 ⟨fun b hb=>c2 x (by simp) b hb,a2⟩,fun a ha b hb => ?_⟩
 rcases List.mem_cons.1 hb with rfl|hb
 ·exact c1 a ha _ (by simp)
 ·exact a3 a ha b hb
inductive Blk (R:α→α→Prop) (s:Nat):List α→Prop
 |last {l:List α}:l.length≤s→l.Pairwise R→Blk R s l
 |more {X Y:List α}:X.length=s→X.Pairwise R→Blk R s Y→Blk R s (X++Y)
theorem Blk.sorted {s:Nat} {l:List α} (h:Blk R s l) (hs:l.length≤s):l.Pairwise R:=by
 cases h with
 |last _ h=>exact h
 | @more X Y h1 h2 h3=>
  rw[List.length_append]at hs
  obtain rfl:=List.eq_nil_of_length_eq_zero (l:=Y) (by omega)
  simpa using h2
theorem Blk.split {s:Nat} {l:List α} (h:Blk R s l) (hs:s<l.length) : ∃X Y,l=X++Y∧X.length=s∧X.Pairwise R∧Blk R s Y:=by
 cases h with
 |last h1 _=>omega
 | @more X Y h1 h2 h3=>exact⟨X,Y,rfl,h1,h2,h3⟩
theorem Blk.nil {s:Nat}:Blk R s ([]:List α):=.last (Nat.zero_le _) .nil
theorem qku {f:Env→qf→R3} {s:Env→qf→Option (Env×qf)} {τ:Type} (E:τ→Env) (S:τ→qf) (m:τ→Nat) (Inv:τ→Prop) (Q:CExit×Env×qf→Prop)
  (step : ∀a,Inv a→(∃a',it1 f s (E a) (S a)=some (.inl (E a',S a'))∧Inv a'∧m a'<m a) ∨ ∃y,it1 f s (E a) (S a)=some (.inr y)∧Q y) :
  ∀a,Inv a → ∃y,itB f s (E a) (S a)=some y∧Q y:=by
 have : ∀k a,m a≤k→Inv a → ∃y,itB f s (E a) (S a)=some y∧Q y:=by
  intro k
  induction k with
  |zero=>
   intro a hk ha
   rcases step a ha with ⟨a',h1,h2,h3⟩|⟨y,h1,h2⟩
   ·omega
   ·exact⟨y,qnq h1,h2⟩
  |succ k ih=>
   intro a hk ha
   rcases step a ha with ⟨a',h1,h2,h3⟩|⟨y,h1,h2⟩
   ·obtain⟨y,h4,h5⟩:=ih a' (by omega) h2
    exact⟨y,qm3 h1 h4,h5⟩
   ·exact⟨y,qnq h1,h2⟩
 exact fun a=>this (m a) a (Nat.le_refl _)
end
end Go.Ev
namespace Go.Proofs.YtpgdfkciinankaaGreat.K
open Go.Ev
set_option maxRecDepth 10000
theorem qoy {a b:Nat} (h:a+b<2^62):IntKind.i64.wrap ((a:Int)+(b:Int))=((a+b:Nat):Int):=by rw[qi (by omega) (by omega)];simp
theorem qpo {a:Nat} (h:a<2^62):IntKind.i64.wrap ((a:Int)+1)=((a+1:Nat):Int):=by rw[qi (by omega) (by omega)];simp
theorem qo0 {a b c:Nat} (h:a=b+c) (h2:a<2^62):IntKind.i64.wrap ((a:Int)-(b:Int))=(c:Int):=by rw[qi (by omega) (by omega)];omega
theorem q7f {a c:Nat} (h:a=c+1) (h2:a<2^62):IntKind.i64.wrap ((a:Int)-1)=(c:Int):=by rw[qi (by omega) (by omega)];omega
section
variable (g:Nat) (cl:Bool) (n:Nat)
theorem qzg (L X M Y N:List Evt) (hXY:Y.length=X.length) (hn:n=(L++(X++(M++(Y++N)))).length) (hb:n<2^61) (a b:Nat) (ha:a=L.length) (hbb:b=L.length+X.length+M.length) :
  (evL T).call qak [.sl 0 g 0 n cl,(ii a),(ii b),(ii X.length),(.fn (.func qd) [] [])] [.row 6 ((L++(X++(M++(Y++N)))).map Evt.r) g]=some (.tup [],[.row 6 ((L++(Y++(M++(X++N)))).map Evt.r) g]):=by
 have hlen:n=L.length+(X.length+(M.length+(Y.length+N.length))):=by rw[hn];simp
 have key:=qg5 (f:=exec (evL T) itL none qcu) (s:=qai [0,1,2,3,10] true 1) (α:=List Evt)
  (fun i D=>⟨[(0,.sl 0 g 0 n cl),(1,(ii a)),(2,(ii b)),(3,(ii X.length)),(10,(ii i))],[]⟩) (fun i D=>[.row 6 ((D).map Evt.r) g])
  (fun i D=>D=L++((Y.take i++X.drop i)++(M++((X.take i++Y.drop i)++N)))) X.length
  (fun y=>y.1 = .exit 0∧y.2.1.marks=[]∧y.2.2=[.row 6 ((L++(Y++(M++(X++N)))).map Evt.r) g]) ?_ ?_ 0 _ (Nat.zero_le _) rfl
 ·obtain⟨⟨y,e,σ⟩,k1,k2,k3,k4⟩:=key
  simp only[zgo,zgg,zgl,Int.cast_ofNat_Int]at k1 k2 k3 k4
  subst k2;subst k4
  rw[qe qmf ql9]
  simp only[qdf,k1,k3,qq,Ev.ev1,qh,Ev.SObj.lo,zgy,↓qc,↓qv,↓reduceIte,Nat.reduceAdd,Nat.reduceEqDiff,reduceCtorEq]
 ·rintro i D hi hD
  obtain⟨x,hx⟩ : ∃x,X[i]? = some x:=⟨_,zgE hi⟩
  obtain⟨y,hy⟩ : ∃y,Y[i]? = some y:=⟨_,zgE (by omega)⟩
  have dx:X.drop i=x::X.drop (i+1):=by obtain⟨_,rfl⟩:=zei.1 hx;exact List.drop_eq_getElem_cons hi
  have dy:Y.drop i=y::Y.drop (i+1):=by obtain⟨_,rfl⟩:=zei.1 hy;exact List.drop_eq_getElem_cons (by omega)
  have e1:D=(L++Y.take i)++x::((X.drop (i+1)++(M++X.take i))++y::(Y.drop (i+1)++N)):=by rw[hD,dx,dy];simp
  have l1:a+i=(L++Y.take i).length:=by simp;omega
  have l2:b+i=a+i+1+(X.drop (i+1)++(M++X.take i)).length:=by simp;omega
  have gx:D[a+i]? = some x:=qtz e1 l1
  have gy:D[b+i]? = some y:=by
   refine qtz (L:=(L++Y.take i)++x::(X.drop (i+1)++(M++X.take i))) (M:=Y.drop (i+1)++N) (by rw[e1];simp) ?_
   rw[l2,l1];simp;omega
  have ge:D.length=n:=by rw[e1,hlen];simp;omega
  have sw:=swap_far e1 l1 l2
  have hne:¬(a+i=b+i):=by omega
  have hi':(i:Int)<(X.length:Int):=by omega
  have wa:IntKind.i64.wrap ((a:Int)+(i:Int))=((a+i:Nat):Int):=qoy (by omega)
  have wb:IntKind.i64.wrap ((b:Int)+(i:Int))=((b+i:Nat):Int):=qoy (by omega)
  have wi:IntKind.i64.wrap ((i:Int)+1)=((i+1:Nat):Int):=qpo (by omega)
  have ra:a+i<n:=by omega
  have rb:b+i<n:=by omega
  obtain⟨xt,xk,xl,xi,xp,xa⟩:=x
  obtain⟨yt,yk,yl,yi,yp,ya⟩:=y
  have hs : ∀v,((D.map Evt.r).set (a+i) v)[b+i]? = some (Evt.r ⟨yt,yk,yl,yi,yp,ya⟩):=fun v=>by rw[List.getElem?_set_ne hne,List.getElem?_map,gy];rfl
  have hlo:=qq 1 ((D.set (a+i) ⟨yt,yk,yl,yi,yp,ya⟩).set (b+i) ⟨xt,xk,xl,xi,xp,xa⟩)
  simp only[List.map_set,Evt.r]at hlo
  refine .inl ⟨(D.set (a+i) ⟨yt,yk,yl,yi,yp,ya⟩).set (b+i) ⟨xt,xk,xl,xi,xp,xa⟩,?_,?_⟩
  ·simp only[qcu,zgs,zgr,zgq,zgt,gx,gy,hs,hi',wa,wb,wi,ra,rb,hlo,List.map_set,Evt.r,Ev.ev1,Ev.stP,qb,Ev.AV.cells,Ev.AV.plain,Ev.SObj.lo,zgy,↓qc,↓reduceIte,Nat.reduceAdd,Nat.reduceEqDiff,reduceCtorEq]
  ·rw[sw,qhq hx,qhq hy];simp
 ·rintro D hD
  have hD':D=L++(Y++(M++(X++N))):=by rw[hD,←hXY,List.take_length,List.drop_length,hXY,List.take_length,List.drop_length];simp
  subst hD'
  simp only[qcu,Int.lt_irrefl,Ev.ev1,zgy,↓qc,↓reduceIte,Nat.reduceEqDiff,reduceCtorEq]
  exact⟨_,rfl,rfl,rfl,rfl⟩
end
open Go.Ev
theorem qahh (a b:Int):qv6 b a = -qv6 a b:=by unfold qv6;split<;>split<;>(try split)<;>omega
theorem qm2 (a b:Int):(qv6 a b<0↔a<b)∧(qv6 a b=0↔a=b)∧(0<qv6 a b↔b<a):=by
 unfold qv6
 split
 ·refine⟨?_,?_,?_⟩<;>omega
 split
 ·refine⟨?_,?_,?_⟩<;>omega
 ·refine⟨?_,?_,?_⟩<;>omega
theorem qaen : ∀a b:List Int,qoa b a = -qoa a b
 | [],[]=>rfl
 | [],y::b=>by simp[qoa]
 |x::a,[]=>by simp[qoa]
 |x::a,y::b=>by
  simp only[qoa]
  by_cases h:x=y
  ·subst h;simp only[if_true];exact qaen a b
  ·rw[if_neg h,if_neg (fun e=>h e.symm)];exact qahh x y
theorem q8v : ∀a b c:List Int,qoa a b≤0→qoa b c≤0→qoa a c≤0
 | [],b,c,_,_=>by cases c<;>simp[qoa]
 |x::a,[],c,h,_=>by simp[qoa]at h
 |x::a,y::b,[],_,h=>by simp[qoa]at h
 |x::a,y::b,z::c,h1,h2=>by
  simp only[qoa]at h1 h2⊢
  have c1:=qm2 x y
  have c2:=qm2 y z
  have c3:=qm2 x z
  by_cases e1:x=y
  ·subst e1
   rw[if_pos rfl]at h1
   by_cases e2:x=z
   ·subst e2;rw[if_pos rfl]at h2 ⊢;exact q8v a b c h1 h2
   ·rw[if_neg e2]at h2 ⊢;exact h2
  ·rw[if_neg e1]at h1
   by_cases e2:y=z
   ·subst e2;rw[if_neg e1];exact h1
   ·rw[if_neg e2]at h2
    have:¬x=z:=by intro e;omega
    rw[if_neg this]
    omega
def leE (x y:Evt):Prop:=qx5 x y≤0
theorem qw5 (x y:Evt):qx5 y x = -qx5 x y:=by
 unfold qx5
 have:=qahh x.time y.time
 have:=qaen x.key y.key
 by_cases h:qv6 x.time y.time=0
 ·rw[if_pos h,if_pos (by omega)];assumption
 ·rw[if_neg h,if_neg (by omega)];assumption
theorem qox (x y z:Evt) (h1:leE x y) (h2:leE y z):leE x z:=by
 unfold leE qx5 at *
 have c1:=qm2 x.time y.time
 have c2:=qm2 y.time z.time
 have c3:=qm2 x.time z.time
 by_cases e1:qv6 x.time y.time=0
 ·rw[if_pos e1]at h1
  by_cases e2:qv6 y.time z.time=0
  ·rw[if_pos e2]at h2
   rw[if_pos (by omega)];exact q8v _ _ _ h1 h2
  ·rw[if_neg e2]at h2
   rw[if_neg (by omega)];omega
 ·rw[if_neg e1]at h1
  by_cases e2:qv6 y.time z.time=0
  ·rw[if_neg (by omega)];omega
  ·rw[if_neg e2]at h2
   rw[if_neg (by omega)];omega
theorem qvh (x y:Evt) (h:¬qx5 x y<0):leE y x:=by unfold leE;have:=qw5 x y;omega
theorem q9s (x y:Evt) (h:qx5 x y<0):leE x y:=by unfold leE;omega
theorem q9t (x y:Evt):qx5 x y=0↔x.time=y.time∧x.key=y.key:=by
 unfold qx5
 have:=qm2 x.time y.time
 have:=q4j x.key y.key
 by_cases h:qv6 x.time y.time=0
 ·rw[if_pos h];constructor
  ·intro k;exact⟨by omega,by simpa[k]using this⟩
  ·intro k;exact this.2 k.2
 ·rw[if_neg h];constructor
  ·intro k;exact absurd k h
  ·intro k;omega
open Go.Ev
set_option maxRecDepth 10000
section
variable (g:Nat) (cl:Bool) (n:Nat)
def qc4 (D:List Evt):Prop:=∀x∈D,x.key.length≤9223372036854775807
theorem q9p (P S Q:List Evt) (x:Evt) (hn:n=(P++(S++x::Q)).length) (hb:n<2^61) (hk:qc4 (P++(S++x::Q))) (hS:S.Pairwise leE) (a:Nat) (ha:a=P.length) (b i:Int) :
  ∃y,itB (exec (evL T) itL none qbe) (qai [0,1,2,3,8,9] true 1) ⟨[(0,.sl 0 g 0 n cl),(1,(ii a)),(2,(ii b)),(3,(.fn (.func qd) [] [])),(8,(ii i)),(9,(ii ((a+S.length:Nat))))],[]⟩ [.row 6 ((P++(S++x::Q)).map Evt.r) g]=some y ∧
   (y.1 = .exit 2∧y.2.1.marks=[]∧Ev.look y.2.1.vars 0=some (.sl 0 g 0 n cl)∧Ev.look y.2.1.vars 1=some (ii a)∧Ev.look y.2.1.vars 2=some (ii b)∧Ev.look y.2.1.vars 3=some (.fn (.func qd) [] [])∧Ev.look y.2.1.vars 8=some (ii i) ∧ ∃S':List Evt,S'.Perm (x::S)∧S'.Pairwise leE∧y.2.2=[.row 6 ((P++(S'++Q)).map Evt.r) g]):=by
 refine qku (τ:=List Evt×Nat) (fun s=>⟨[(0,.sl 0 g 0 n cl),(1,(ii a)),(2,(ii b)),(3,(.fn (.func qd) [] [])),(8,(ii i)),(9,(ii s.2))],[]⟩) (fun s=>[.row 6 ((s.1).map Evt.r) g]) (fun s=>s.2)
  (fun s => ∃A B,s.1=P++(A++x::(B++Q))∧s.2=a+A.length∧A++B=S ∧ ∀v,B[0]? = some v→leE x v) _ ?_ (P++(S++x::Q),a+S.length) ⟨S,[],by simp,rfl,by simp,by simp⟩
 rintro⟨D,j⟩ ⟨A,B,hD,hj,hAB,hB⟩
 simp only at hD hj⊢
 have hlen:n=P.length+(S.length+(Q.length+1)):=by rw[hn];simp
 have hSl:S.length=A.length+B.length:=by rw[←hAB];simp
 have fin:(∀u,A[A.length-1]? = some u→leE u x) → ∃S':List Evt,S'.Perm (x::S)∧S'.Pairwise leE∧([.row 6 ((D).map Evt.r) g]:qf)=[.row 6 ((P++(S'++Q)).map Evt.r) g]:=fun h=>by
  refine⟨A++x::B,?_,qtm qox (by rw[hAB];exact hS) h hB,by rw[hD];simp⟩
  rw[←hAB];exact List.perm_middle
 rcases List.eq_nil_or_concat A with rfl|⟨A0,y,rfl⟩
 ·have h1:¬(j:Int)>(a:Int):=by simp at hj;omega
  refine .inr ?_
  simp only[qbe,h1,Ev.ev1,zgy,↓qc,↓reduceIte,Nat.reduceEqDiff,reduceCtorEq]
  exact⟨_,rfl,rfl,rfl,rfl,rfl,rfl,rfl,rfl,fin (by simp)⟩
 ·simp only[List.concat_eq_append,zgp,zga,zgb]at hD hj hSl hAB fin
  obtain⟨k,hk1⟩ : ∃k,k=a+A0.length:=⟨_,rfl⟩
  have hjk:j=k+1:=by omega
  have h1:(j:Int)>(a:Int):=by omega
  have e1:D=(P++A0)++y::x::(B++Q):=by rw[hD];simp
  have l1:k=(P++A0).length:=by simp;omega
  have gy:D[k]? = some y:=qtz e1 l1
  have gx:D[j]? = some x:=qtz (L:=P++A0++[y]) (M:=B++Q) (by rw[e1];simp) (by simp;omega)
  have ge:D.length=n:=by rw[e1,hlen];simp;omega
  have ws:IntKind.i64.wrap ((j:Int)-1)=(k:Int):=q7f hjk (by omega)
  have rj:j<n:=by omega
  have rk:k<n:=by omega
  have kx:x.key.length≤9223372036854775807:=hk x (by simp)
  have ky:y.key.length≤9223372036854775807:=hk y (by rw[←hAB];simp)
  have hc:=qm8 x y kx ky 6 (D.map Evt.r) g
  have sw:=qado e1 l1 hjk
  have hne:¬(j=k):=by omega
  by_cases hlt:qx5 x y<0
  ·left
   have hle:=q9s x y hlt
   obtain⟨x',rfl⟩ : ∃z,x=z:=⟨x,rfl⟩
   have hlo:=qq 1 ((D.set j y).set k x)
   refine⟨((D.set j y).set k x,k),?_,⟨A0,y::B,by rw[sw];simp,hk1,by rw[←hAB];simp,fun v hv=>by simp at hv;rw[←hv];exact hle⟩,by simp only;omega⟩
   obtain⟨xt,xk,xl,xi,xp,xa⟩:=x
   obtain⟨yt,yk,yl,yi,yp,ya⟩:=y
   have hs : ∀v,((D.map Evt.r).set j v)[k]? = some (Evt.r ⟨yt,yk,yl,yi,yp,ya⟩):=fun v=>by rw[List.getElem?_set_ne hne,List.getElem?_map,gy];rfl
   simp only[List.map_set,Evt.r]at hlo
   simp only at hc
   simp only[qbe,zgs,zgr,zgq,zgt,gx,gy,hs,h1,ws,rj,rk,hc,hlt,hlo,List.map_set,Evt.r,Ev.ev1,Ev.stP,qb,Ev.AV.cells,Ev.AV.plain,Ev.SObj.lo,zgy,↓qc,↓reduceIte,Nat.reduceAdd,Nat.reduceEqDiff,reduceCtorEq]
  ·right
   have hf:=fin (fun u hu=>by simp at hu;rw[←hu];exact qvh x y hlt)
   obtain⟨xt,xk,xl,xi,xp,xa⟩:=x
   obtain⟨yt,yk,yl,yi,yp,ya⟩:=y
   simp only at hc
   simp only[qbe,zgs,zgr,zgq,zgt,gx,gy,h1,ws,rj,rk,hc,hlt,Evt.r,Ev.ev1,qb,zgy,↓qc,↓reduceIte,Nat.reduceAdd,Nat.reduceEqDiff,reduceCtorEq]
   exact⟨_,rfl,rfl,rfl,rfl,rfl,rfl,rfl,rfl,hf⟩
theorem q5r (P S Q:List Evt) (hn:n=(P++(S++Q)).length) (hb:n<2^61) (hk:qc4 (P++(S++Q))) (a b:Nat) (ha:a=P.length) (hbb:b=a+S.length) :
  ∃S':List Evt,S'.Perm S∧S'.Pairwise leE∧(evL T).call qaj [.sl 0 g 0 n cl,(ii a),(ii b),(.fn (.func qd) [] [])] [.row 6 ((P++(S++Q)).map Evt.r) g]=some (.tup [],[.row 6 ((P++(S'++Q)).map Evt.r) g]):=by
 have hlen:n=P.length+(S.length+Q.length):=by rw[hn];simp
 have key:=qku (f:=exec (evL T) itL none qbd) (s:=qai [0,1,2,3,8] true 1) (τ:=List Evt×Nat)
  (fun s=>⟨[(0,.sl 0 g 0 n cl),(1,(ii a)),(2,(ii b)),(3,(.fn (.func qd) [] [])),(8,(ii s.2))],[]⟩) (fun s=>[.row 6 ((s.1).map Evt.r) g]) (fun s=>b-s.2)
  (fun s=>(∃A B,s.1=P++(A++(B++Q))∧s.2=a+A.length∧(A++B).Perm S∧A.Pairwise leE)∨S=[]∧s.1=P++Q∧s.2=a+1)
  (fun y=>y.1 = .exit 0∧y.2.1.marks=[] ∧ ∃S':List Evt,S'.Perm S∧S'.Pairwise leE∧y.2.2=[.row 6 ((P++(S'++Q)).map Evt.r) g]) ?_ (P++(S++Q),a+1) ?_
 ·obtain⟨⟨y,e,σ⟩,k1,k2,k3,S',k4,k5,k6⟩:=key
  simp only at k1 k2 k3 k6
  subst k2;subst k6
  refine⟨S',k4,k5,?_⟩
  have w1:IntKind.i64.wrap ((a:Int)+1)=((a+1:Nat):Int):=qpo (by omega)
  rw[qe qk0 qkt]
  simp only[qcr,w1,k1,k3,qq,Ev.ev1,qh,Ev.SObj.lo,zgy,↓qc,↓qv,↓reduceIte,Nat.reduceAdd,Nat.reduceEqDiff,reduceCtorEq]
 ·rintro⟨D,i⟩ (⟨A,B,hD,hi,hAB,hA⟩|⟨hS,hD,hi⟩)
  ·simp only at hD hi⊢
   have hl:=hAB.length_eq
   rw[List.length_append]at hl
   cases B with
   |nil=>
    have h1:¬(i:Int)<(b:Int):=by simp at hl;omega
    right
    simp only[qbd,h1,Ev.ev1,zgy,↓qc,↓reduceIte,Nat.reduceEqDiff,reduceCtorEq]
    exact⟨_,rfl,rfl,rfl,A,by simpa using hAB,hA,by rw[hD];simp⟩
   |cons x B=>
    rw[List.length_cons]at hl
    have h1:(i:Int)<(b:Int):=by omega
    have hkD:qc4 (P++(A++x::(B++Q))):=by
     intro z hz
     refine hk z ?_
     simp only[List.mem_append,List.mem_cons]at hz⊢
     have:=hAB.mem_iff (a:=z)
     simp only[List.mem_append,List.mem_cons]at this
     rcases hz with h|h|h|h|h
     ·exact .inl h
     ·exact .inr (.inl (this.1 (.inl h)))
     ·exact .inr (.inl (this.1 (.inr (.inl h))))
     ·exact .inr (.inl (this.1 (.inr (.inr h))))
     ·exact .inr (.inr h)
    obtain⟨⟨y,e,σ⟩,k1,k2,k3,k4,k5,k6,k7,k8,S',k9,k10,k11⟩:=q9p g cl n P A (B++Q) x (by rw[hlen];simp;omega) hb hkD hA a ha b i
    simp only at k1 k2 k3 k4 k5 k6 k7 k8 k11
    subst k2;subst k11
    have w1:IntKind.i64.wrap ((i:Int)+1)=((i+1:Nat):Int):=qpo (by omega)
    left
    refine⟨(P++(S'++(B++Q)),i+1),?_,.inl ⟨S',B,rfl,?_,?_,k10⟩,?_⟩
    ·rw[←hi]at k1
     rw[hD]
     simp only[zgm]at k1⊢
     simp only[qbd,h1,w1,k1,k3,k4,k5,k6,k7,k8,qq,Ev.ev1,Ev.SObj.lo,zgy,↓qc,↓qv,↓reduceIte,Nat.reduceEqDiff,reduceCtorEq]
    ·have:=k9.length_eq;rw[List.length_cons]at this;simp only;omega
    ·exact((k9.append_right B).trans List.perm_middle.symm).trans hAB
    ·simp only;omega
  ·simp only at hD hi⊢
   subst hS
   have h1:¬(i:Int)<(b:Int):=by simp at hbb;omega
   right
   simp only[qbd,h1,Ev.ev1,zgy,↓qc,↓reduceIte,Nat.reduceEqDiff,reduceCtorEq]
   exact⟨_,rfl,rfl,rfl,[],List.Perm.nil,List.Pairwise.nil,by rw[hD];simp⟩
 ·cases S with
  |nil=>exact .inr ⟨rfl,by simp,rfl⟩
  |cons x S=>exact .inl ⟨[x],S,by simp,by simp,by simp,List.pairwise_singleton _ _⟩
end
open Go.Ev
set_option maxRecDepth 10000
section
variable (g:Nat) (cl:Bool) (n:Nat)
theorem qake (L X Y N:List Evt) (hX:0<X.length) (hY:0<Y.length) (hn:n=(L++(X++(Y++N))).length) (hb:n<2^61) (a m b:Nat) (ha:a=L.length) (hm:m=a+X.length) (hbb:b=m+Y.length) :
  (evL T).call qav [.sl 0 g 0 n cl,(ii a),(ii m),(ii b),(.fn (.func qd) [] [])] [.row 6 ((L++(X++(Y++N))).map Evt.r) g]=some (.tup [],[.row 6 ((L++(Y++(X++N))).map Evt.r) g]):=by
 have hlen:n=L.length+(X.length+(Y.length+N.length)):=by rw[hn];simp
 have key:=qku (f:=exec (evL T) itL none qb1) (s:=qai [0,2,4,10,11] true 1) (τ:=List Evt×Nat×Nat)
  (fun s=>⟨[(0,.sl 0 g 0 n cl),(2,(ii m)),(4,(.fn (.func qd) [] [])),(10,(ii s.2.1)),(11,(ii s.2.2))],[]⟩) (fun s=>[.row 6 ((s.1).map Evt.r) g]) (fun s=>s.2.1+s.2.2)
  (fun s => ∃L' X' Y' N',s.1=L'++(X'++(Y'++N'))∧s.2.1=X'.length∧s.2.2=Y'.length∧0<X'.length∧0<Y'.length∧m=L'.length+X'.length∧L'++(Y'++(X'++N'))=L++(Y++(X++N)))
  (fun y => ∃i:Nat,y.1 = .exit 0∧y.2.1.marks=[]∧Ev.look y.2.1.vars 0=some (.sl 0 g 0 n cl)∧Ev.look y.2.1.vars 2=some (ii m)∧Ev.look y.2.1.vars 4=some (.fn (.func qd) [] [])∧Ev.look y.2.1.vars 10=some (ii i) ∧
   ∃L' X' Y' N':List Evt,y.2.2=[.row 6 ((L'++(X'++(Y'++N'))).map Evt.r) g]∧i=X'.length∧i=Y'.length∧m=L'.length+X'.length∧L'++(Y'++(X'++N'))=L++(Y++(X++N))) ?_ (L++(X++(Y++N)),X.length,Y.length) ⟨L,X,Y,N,rfl,rfl,rfl,hX,hY,by omega,rfl⟩
 ·obtain⟨⟨y,e,σ⟩,k1,i,k2,k3,k4,k5,k6,k7,L',X',Y',N',k8,k9,k10,k11,k12⟩:=key
  simp only at k1 k2 k3 k4 k5 k6 k7 k8
  subst k2;subst k8
  have hl2:=congrArg List.length k12
  simp only[zgp]at hl2
  have w1:IntKind.i64.wrap ((m:Int)-(a:Int))=(X.length:Int):=qo0 hm (by omega)
  have w2:IntKind.i64.wrap ((b:Int)-(m:Int))=(Y.length:Int):=qo0 hbb (by omega)
  have w3:IntKind.i64.wrap ((m:Int)-(i:Int))=(L'.length:Int):=qo0 (by omega) (by omega)
  have sw:=qzg g cl n L' X' [] Y' N' (by omega) (by simp;omega) hb L'.length m rfl (by simp;omega)
  simp only[zgl]at sw
  rw[←k9,k12]at sw
  rw[qe qne qm7]
  simp only[qd1,w1,w2,w3,k1,k3,k4,k5,k6,k7,sw,qq,Ev.ev1,qh,Ev.SObj.lo,zgy,↓qc,↓qv,↓reduceIte,Nat.reduceAdd,Nat.reduceEqDiff,reduceCtorEq]
 ·rintro⟨D,i,j⟩ ⟨L',X',Y',N',hD,hi,hj,hX',hY',hm',heq⟩
  simp only at hD hi hj⊢
  have hl2:=congrArg List.length heq
  simp only[zgp]at hl2
  by_cases hij:i=j
  ·right
   have h1:(i:Int)=(j:Int):=by omega
   subst hij
   simp only[qb1,Ev.ev1,ne_eq,zgy,↓qc,↓reduceIte,Nat.reduceEqDiff,reduceCtorEq]
   exact⟨_,rfl,i,rfl,rfl,rfl,rfl,rfl,rfl,L',X',Y',N',by rw[hD],hi,hj,hm',heq⟩
  have h1:¬(i:Int)=(j:Int):=by omega
  left
  by_cases hgt:j<i
  ·have h2:(i:Int)>(j:Int):=by omega
   obtain⟨X1,X2,rfl,hX1⟩ : ∃X1 X2,X'=X1++X2∧X1.length=j:=⟨X'.take j,X'.drop j,(List.take_append_drop _ _).symm,by simp;omega⟩
   rw[List.length_append]at hi hX' hm' hl2
   have sw:=qzg g cl n L' X1 X2 Y' N' (by omega) (by simp;omega) hb L'.length m rfl (by omega)
   rw[show L'++(X1++(X2++(Y'++N')))=D by rw[hD];simp,hX1]at sw
   have w3:IntKind.i64.wrap ((m:Int)-(i:Int))=(L'.length:Int):=qo0 (by omega) (by omega)
   have w4:IntKind.i64.wrap ((i:Int)-(j:Int))=(X2.length:Int):=qo0 (by omega) (by omega)
   refine⟨(L'++(Y'++(X2++(X1++N'))),X2.length,j),?_,⟨L'++Y',X2,X1,N',by simp,rfl,hX1.symm,by omega,by omega,by simp;omega,by rw[←heq];simp⟩,by first|omega|(simp only;omega)⟩
   simp only[qb1,h1,h2,w3,w4,sw,qq,Ev.ev1,Ev.SObj.lo,ne_eq,zgy,↓qc,↓reduceIte,Nat.reduceEqDiff,reduceCtorEq]
  ·have h2:¬(i:Int)>(j:Int):=by omega
   obtain⟨Y1,Y2,rfl,hY2⟩ : ∃Y1 Y2,Y'=Y1++Y2∧Y2.length=i:=⟨Y'.take (j-i),Y'.drop (j-i),(List.take_append_drop _ _).symm,by simp;omega⟩
   rw[List.length_append]at hj hY' hl2
   have sw:=qzg g cl n L' X' Y1 Y2 N' (by omega) (by simp;omega) hb L'.length (m+Y1.length) rfl (by omega)
   rw[show L'++(X'++(Y1++(Y2++N')))=D by rw[hD];simp,←hi]at sw
   have w3:IntKind.i64.wrap ((m:Int)-(i:Int))=(L'.length:Int):=qo0 (by omega) (by omega)
   have w4:IntKind.i64.wrap ((m:Int)+(j:Int))=((m+j:Nat):Int):=qoy (by omega)
   have w5:IntKind.i64.wrap (((m+j:Nat):Int)-(i:Int))=((m+Y1.length:Nat):Int):=qo0 (by omega) (by omega)
   have w6:IntKind.i64.wrap ((j:Int)-(i:Int))=(Y1.length:Int):=qo0 (by omega) (by omega)
   refine⟨(L'++(Y2++(Y1++(X'++N'))),i,Y1.length),?_,⟨L',Y2,Y1,X'++N',rfl,hY2.symm,rfl,by omega,by omega,by omega,by rw[←heq];simp⟩,by first|omega|(simp only;omega)⟩
   simp only[qb1,h1,h2,w3,w4,w5,w6,sw,qq,Ev.ev1,Ev.SObj.lo,ne_eq,zgy,↓qc,↓reduceIte,Nat.reduceEqDiff,reduceCtorEq]
end
open Go.Ev
set_option maxRecDepth 10000
theorem q29 (s h:Nat) (hh:h=s / 2):qok .shr (.v (.int .u64 (s:Int))) (.v (.int .u64 1))=some (.v (.int .u64 (h:Int))):=by
 subst hh
 show (if (1:Int)<0 then none else some (AV.v (.int .u64 ((s:Int).fdiv (2^(min (1:Int).toNat IntKind.u64.bits)))))) = _
 rw[if_neg (by omega),show (2:Int)^(min (1:Int).toNat IntKind.u64.bits)=2 from rfl,Int.fdiv_eq_ediv_of_nonneg _ (by omega)]
 rw[show (s:Int) / 2=((s / 2:Nat):Int) by omega]
theorem qy6 {n:Nat} (h:n<2^63):IntKind.u64.wrap (n:Int)=(n:Int):=by
 have h3:IntKind.u64.bits=64:=rfl
 have h4:IntKind.u64.signed=false:=rfl
 simp only[IntKind.wrap,h3,h4,Bool.false_and,zfa,if_false]
 omega
theorem qy5 {n:Nat} (h:n<2^63):IntKind.i64.wrap (n:Int)=(n:Int):=qi (by omega) (by omega)
section
variable (g:Nat) (cl:Bool) (n:Nat)
theorem qae7 (D:List Evt) (x:Evt) (hn:n=D.length) (hb:n<2^61) (hk:qc4 D) (a m b:Nat) (ha:D[a]? = some x) (hmb:m≤b) (hbn:b≤n) (han:a<n) :
  ∃y,itB (exec (evL T) itL none qbq) (qai [0,1,4,10,11] true 1) ⟨[(0,.sl 0 g 0 n cl),(1,(ii a)),(4,(.fn (.func qd) [] [])),(10,(ii m)),(11,(ii b))],[]⟩ [.row 6 ((D).map Evt.r) g]=some y ∧
   ∃i:Nat,y.1 = .exit 0∧y.2.1.marks=[]∧y.2.2=[.row 6 ((D).map Evt.r) g]∧Ev.look y.2.1.vars 0=some (.sl 0 g 0 n cl)∧Ev.look y.2.1.vars 1=some (ii a)∧Ev.look y.2.1.vars 10=some (ii i)∧m≤i∧i≤b∧(i=m ∨ ∀v,D[i-1]? = some v→leE v x)∧(i=b ∨ ∀v,D[i]? = some v→leE x v):=by
 refine qku (τ:=Nat×Nat) (fun s=>⟨[(0,.sl 0 g 0 n cl),(1,(ii a)),(4,(.fn (.func qd) [] [])),(10,(ii s.1)),(11,(ii s.2))],[]⟩) (fun _=>[.row 6 ((D).map Evt.r) g]) (fun s=>s.2-s.1)
  (fun s=>m≤s.1∧s.1≤s.2∧s.2≤b∧(s.1=m ∨ ∀v,D[s.1-1]? = some v→leE v x)∧(s.2=b ∨ ∀v,D[s.2]? = some v→leE x v)) _ ?_ (m,b) ⟨Nat.le_refl _,hmb,Nat.le_refl _,.inl rfl,.inl rfl⟩
 rintro⟨i,j⟩ ⟨h1,h2,h3,h4,h5⟩
 simp only at h1 h2 h3 h4 h5⊢
 by_cases hij:i<j
 case neg=>
  have c1:¬(i:Int)<(j:Int):=by omega
  right
  simp only[qbq,c1,Ev.ev1,zgy,↓qc,↓reduceIte,Nat.reduceEqDiff,reduceCtorEq]
  refine⟨_,rfl,i,rfl,rfl,rfl,rfl,rfl,rfl,h1,by omega,h4,?_⟩
  obtain rfl:i=j:=by omega
  exact h5
 obtain⟨h,hh⟩ : ∃h,h=(i+j) / 2:=⟨_,rfl⟩
 have c1:(i:Int)<(j:Int):=by omega
 obtain⟨y,hy⟩ : ∃y,D[h]? = some y:=⟨_,zgE (by omega)⟩
 have w1:IntKind.i64.wrap ((i:Int)+(j:Int))=((i+j:Nat):Int):=qoy (by omega)
 have w2:IntKind.u64.wrap ((i+j:Nat):Int)=((i+j:Nat):Int):=qy6 (by omega)
 have w3:=q29 (i+j) h hh
 have w4:IntKind.i64.wrap (h:Int)=(h:Int):=qy5 (by omega)
 have w5:IntKind.i64.wrap ((h:Int)+1)=((h+1:Nat):Int):=qpo (by omega)
 have rh:h<n:=by omega
 have kx:x.key.length≤9223372036854775807:=hk x (zmg ha)
 have ky:y.key.length≤9223372036854775807:=hk y (zmg hy)
 have hc:=qm8 y x ky kx 6 (D.map Evt.r) g
 left
 by_cases hlt:qx5 y x<0
 ·refine⟨(h+1,j),?_,⟨by simp only;omega,by simp only;omega,h3,.inr fun v hv => ?_,h5⟩,by simp only;omega⟩
  ·obtain⟨xt,xk,xl,xi,xp,xa⟩:=x
   obtain⟨yt,yk,yl,yi,yp,ya⟩:=y
   simp only at hc
   simp only[qbq,zgs,zgr,zgq,zgt,ha,hy,c1,w1,w2,w3,w4,w5,rh,han,hc,hlt,Evt.r,qq,Ev.ev1,qb,Ev.SObj.lo,zgy,↓qc,↓reduceIte,Nat.reduceAdd,Nat.reduceEqDiff,reduceCtorEq]
  ·simp only[Nat.add_sub_cancel]at hv
   rw[hy]at hv;cases hv;exact q9s y x hlt
 ·refine⟨(i,h),?_,⟨h1,by simp only;omega,by simp only;omega,h4,.inr fun v hv => ?_⟩,by simp only;omega⟩
  ·obtain⟨xt,xk,xl,xi,xp,xa⟩:=x
   obtain⟨yt,yk,yl,yi,yp,ya⟩:=y
   simp only at hc
   simp only[qbq,zgs,zgr,zgq,zgt,ha,hy,c1,w1,w2,w3,w4,rh,han,hc,hlt,Evt.r,qq,Ev.ev1,qb,Ev.SObj.lo,zgy,↓qc,↓reduceIte,Nat.reduceAdd,Nat.reduceEqDiff,reduceCtorEq]
  ·simp only at hv
   rw[hy]at hv;cases hv;exact qvh y x hlt
theorem qafc (D:List Evt) (x:Evt) (hn:n=D.length) (hb:n<2^61) (hk:qc4 D) (a m:Nat) (hm:D[m]? = some x) (ham:a≤m) (hmn:m<n) :
  ∃y,itB (exec (evL T) itL none qbs) (qai [0,2,4,14,15] true 1) ⟨[(0,.sl 0 g 0 n cl),(2,(ii m)),(4,(.fn (.func qd) [] [])),(14,(ii a)),(15,(ii m))],[]⟩ [.row 6 ((D).map Evt.r) g]=some y ∧
   ∃i:Nat,y.1 = .exit 4∧y.2.1.marks=[]∧y.2.2=[.row 6 ((D).map Evt.r) g]∧Ev.look y.2.1.vars 0=some (.sl 0 g 0 n cl)∧Ev.look y.2.1.vars 2=some (ii m)∧Ev.look y.2.1.vars 14=some (ii i)∧a≤i∧i≤m∧(i=a ∨ ∀v,D[i-1]? = some v→leE v x)∧(i=m ∨ ∀v,D[i]? = some v→leE x v):=by
 refine qku (τ:=Nat×Nat) (fun s=>⟨[(0,.sl 0 g 0 n cl),(2,(ii m)),(4,(.fn (.func qd) [] [])),(14,(ii s.1)),(15,(ii s.2))],[]⟩) (fun _=>[.row 6 ((D).map Evt.r) g]) (fun s=>s.2-s.1)
  (fun s=>a≤s.1∧s.1≤s.2∧s.2≤m∧(s.1=a ∨ ∀v,D[s.1-1]? = some v→leE v x)∧(s.2=m ∨ ∀v,D[s.2]? = some v→leE x v)) _ ?_ (a,m) ⟨Nat.le_refl _,ham,Nat.le_refl _,.inl rfl,.inl rfl⟩
 rintro⟨i,j⟩ ⟨h1,h2,h3,h4,h5⟩
 simp only at h1 h2 h3 h4 h5⊢
 by_cases hij:i<j
 case neg=>
  have c1:¬(i:Int)<(j:Int):=by omega
  right
  simp only[qbs,c1,Ev.ev1,zgy,↓qc,↓reduceIte,Nat.reduceEqDiff,reduceCtorEq]
  refine⟨_,rfl,i,rfl,rfl,rfl,rfl,rfl,rfl,h1,by omega,h4,?_⟩
  obtain rfl:i=j:=by omega
  exact h5
 obtain⟨h,hh⟩ : ∃h,h=(i+j) / 2:=⟨_,rfl⟩
 have c1:(i:Int)<(j:Int):=by omega
 obtain⟨y,hy⟩ : ∃y,D[h]? = some y:=⟨_,zgE (by omega)⟩
 have w1:IntKind.i64.wrap ((i:Int)+(j:Int))=((i+j:Nat):Int):=qoy (by omega)
 have w2:IntKind.u64.wrap ((i+j:Nat):Int)=((i+j:Nat):Int):=qy6 (by omega)
 have w3:=q29 (i+j) h hh
 have w4:IntKind.i64.wrap (h:Int)=(h:Int):=qy5 (by omega)
 have w5:IntKind.i64.wrap ((h:Int)+1)=((h+1:Nat):Int):=qpo (by omega)
 have rh:h<n:=by omega
 have kx:x.key.length≤9223372036854775807:=hk x (zmg hm)
 have ky:y.key.length≤9223372036854775807:=hk y (zmg hy)
 have hc:=qm8 x y kx ky 6 (D.map Evt.r) g
 left
 by_cases hlt:qx5 x y<0
 ·refine⟨(i,h),?_,⟨h1,by simp only;omega,by simp only;omega,h4,.inr fun v hv => ?_⟩,by simp only;omega⟩
  ·obtain⟨xt,xk,xl,xi,xp,xa⟩:=x
   obtain⟨yt,yk,yl,yi,yp,ya⟩:=y
   simp only at hc
   simp only[qbs,zgs,zgr,zgq,zgt,hm,hy,c1,w1,w2,w3,w4,rh,hmn,hc,hlt,Evt.r,qq,Ev.ev1,qb,Ev.SObj.lo,zgy,↓qc,↓reduceIte,Nat.reduceAdd,Nat.reduceEqDiff,reduceCtorEq]
  ·simp only at hv
   rw[hy]at hv;cases hv;exact q9s x y hlt
 ·refine⟨(h+1,j),?_,⟨by simp only;omega,by simp only;omega,h3,.inr fun v hv => ?_,h5⟩,by simp only;omega⟩
  ·obtain⟨xt,xk,xl,xi,xp,xa⟩:=x
   obtain⟨yt,yk,yl,yi,yp,ya⟩:=y
   simp only at hc
   simp only[qbs,zgs,zgr,zgq,zgt,hm,hy,c1,w1,w2,w3,w4,w5,rh,hmn,hc,hlt,Evt.r,qq,Ev.ev1,qb,Ev.SObj.lo,zgy,↓qc,↓reduceIte,Nat.reduceAdd,Nat.reduceEqDiff,reduceCtorEq]
  ·simp only[Nat.add_sub_cancel]at hv
   rw[hy]at hv;cases hv;exact qvh x y hlt
theorem qaf7 (D:List Evt) (hn:n=D.length) (hb:n<2^61) (hk:qc4 D) (a m b mid nn p lo hi:Nat) (hp:nn=p+1) (hlh:lo≤hi) (hdom : ∀c,lo≤c→c<hi→c<n∧c≤p∧p-c<n) (hnn:nn<2^62) (hhn:hi≤n) :
  ∃y,itB (exec (evL T) itL none qa7) (qai [0,1,2,3,4,18,19,20,21,22] true 1) ⟨[(0,.sl 0 g 0 n cl),(1,(ii a)),(2,(ii m)),(3,(ii b)),(4,(.fn (.func qd) [] [])),(18,(ii mid)),(19,(ii nn)),(20,(ii lo)),(21,(ii hi)),(22,(ii p))],[]⟩ [.row 6 ((D).map Evt.r) g]=some y ∧
   ∃i:Nat,y.1 = .exit 8∧y.2.1.marks=[]∧y.2.2=[.row 6 ((D).map Evt.r) g]∧Ev.look y.2.1.vars 0=some (.sl 0 g 0 n cl)∧Ev.look y.2.1.vars 1=some (ii a)∧Ev.look y.2.1.vars 2=some (ii m)∧Ev.look y.2.1.vars 3=some (ii b)∧Ev.look y.2.1.vars 4=some (.fn (.func qd) [] [])∧Ev.look y.2.1.vars 18=some (ii mid) ∧
    Ev.look y.2.1.vars 19=some (ii nn)∧Ev.look y.2.1.vars 20=some (ii i)∧lo≤i∧i≤hi∧(i=lo ∨ ∀u v,D[i-1]? = some u→D[p-(i-1)]? = some v→leE u v)∧(i=hi ∨ ∀u v,D[p-i]? = some u→D[i]? = some v→leE u v):=by
 refine qku (τ:=Nat×Nat) (fun s=>⟨[(0,.sl 0 g 0 n cl),(1,(ii a)),(2,(ii m)),(3,(ii b)),(4,(.fn (.func qd) [] [])),(18,(ii mid)),(19,(ii nn)),(20,(ii s.1)),(21,(ii s.2)),(22,(ii p))],[]⟩) (fun _=>[.row 6 ((D).map Evt.r) g]) (fun s=>s.2-s.1)
  (fun s=>lo≤s.1∧s.1≤s.2∧s.2≤hi∧(s.1=lo ∨ ∀u v,D[s.1-1]? = some u→D[p-(s.1-1)]? = some v→leE u v)∧(s.2=hi ∨ ∀u v,D[p-s.2]? = some u→D[s.2]? = some v→leE u v)) _ ?_ (lo,hi) ⟨Nat.le_refl _,hlh,Nat.le_refl _,.inl rfl,.inl rfl⟩
 rintro⟨i,j⟩ ⟨h1,h2,h3,h4,h5⟩
 simp only at h1 h2 h3 h4 h5⊢
 by_cases hij:i<j
 case neg=>
  have c1:¬(i:Int)<(j:Int):=by omega
  right
  simp only[qa7,c1,Ev.ev1,zgy,↓qc,↓reduceIte,Nat.reduceEqDiff,reduceCtorEq]
  refine⟨_,rfl,i,rfl,rfl,rfl,rfl,rfl,rfl,rfl,rfl,rfl,rfl,rfl,h1,by omega,h4,?_⟩
  obtain rfl:i=j:=by omega
  exact h5
 obtain⟨h,hh⟩ : ∃h,h=(i+j) / 2:=⟨_,rfl⟩
 have c1:(i:Int)<(j:Int):=by omega
 obtain⟨d1,d2,d3⟩:=hdom h (by omega) (by omega)
 obtain⟨q,hq⟩ : ∃q,q=p-h:=⟨_,rfl⟩
 obtain⟨y,hy⟩ : ∃y,D[h]? = some y:=⟨_,zgE (by omega)⟩
 obtain⟨x,hx⟩ : ∃x,D[q]? = some x:=⟨_,zgE (by omega)⟩
 have w1:IntKind.i64.wrap ((i:Int)+(j:Int))=((i+j:Nat):Int):=qoy (by omega)
 have w2:IntKind.u64.wrap ((i+j:Nat):Int)=((i+j:Nat):Int):=qy6 (by omega)
 have w3:=q29 (i+j) h hh
 have w4:IntKind.i64.wrap (h:Int)=(h:Int):=qy5 (by omega)
 have w5:IntKind.i64.wrap ((h:Int)+1)=((h+1:Nat):Int):=qpo (by omega)
 have w6:IntKind.i64.wrap ((p:Int)-(h:Int))=(q:Int):=qo0 (by omega) (by omega)
 have rq:q<n:=by omega
 have kx:x.key.length≤9223372036854775807:=hk x (zmg hx)
 have ky:y.key.length≤9223372036854775807:=hk y (zmg hy)
 have hc:=qm8 x y kx ky 6 (D.map Evt.r) g
 left
 by_cases hlt:qx5 x y<0
 ·refine⟨(i,h),?_,⟨h1,by simp only;omega,by simp only;omega,h4,.inr fun u v hu hv => ?_⟩,by simp only;omega⟩
  ·obtain⟨xt,xk,xl,xi,xp,xa⟩:=x
   obtain⟨yt,yk,yl,yi,yp,ya⟩:=y
   simp only at hc
   simp only[qa7,zgs,zgr,zgq,zgt,hx,hy,c1,w1,w2,w3,w4,w6,d1,rq,hc,hlt,Evt.r,qq,Ev.ev1,qb,Ev.SObj.lo,zgy,↓qc,↓reduceIte,Nat.reduceAdd,Nat.reduceEqDiff,reduceCtorEq]
  ·simp only at hu hv
   rw[←hq,hx]at hu;cases hu
   rw[hy]at hv;cases hv;exact q9s x y hlt
 ·refine⟨(h+1,j),?_,⟨by simp only;omega,by simp only;omega,h3,.inr fun u v hu hv => ?_,h5⟩,by simp only;omega⟩
  ·obtain⟨xt,xk,xl,xi,xp,xa⟩:=x
   obtain⟨yt,yk,yl,yi,yp,ya⟩:=y
   simp only at hc
   simp only[qa7,zgs,zgr,zgq,zgt,hx,hy,c1,w1,w2,w3,w4,w5,w6,d1,rq,hc,hlt,Evt.r,qq,Ev.ev1,qb,Ev.SObj.lo,zgy,↓qc,↓reduceIte,Nat.reduceAdd,Nat.reduceEqDiff,reduceCtorEq]
  ·simp only[Nat.add_sub_cancel]at hu hv
   rw[←hq,hx]at hv;cases hv
   rw[hy]at hu;cases hu;exact qvh x y hlt
end
open Go.Ev
set_option maxRecDepth 10000
section
variable (g:Nat) (cl:Bool) (n:Nat)
theorem qaft (P S Q:List Evt) (x:Evt) (hn:n=(P++x::(S++Q)).length) (hb:n<2^61) (a i:Nat) (ha:a=P.length) (hi:i=a+S.length+1) :
  ∃y,itB (exec (evL T) itL none qc0) (qai [0,10,13] true 1) ⟨[(0,.sl 0 g 0 n cl),(10,(ii i)),(13,(ii a))],[]⟩ [.row 6 ((P++x::(S++Q)).map Evt.r) g]=some y ∧
   (y.1 = .exit 2∧y.2.1.marks=[]∧y.2.2=[.row 6 ((P++(S++x::Q)).map Evt.r) g]):=by
 refine qku (τ:=List Evt×Nat) (fun s=>⟨[(0,.sl 0 g 0 n cl),(10,(ii i)),(13,(ii s.2))],[]⟩) (fun s=>[.row 6 ((s.1).map Evt.r) g]) (fun s=>i-s.2)
  (fun s => ∃A B,s.1=P++(A++x::(B++Q))∧s.2=a+A.length∧A++B=S) _ ?_ (P++x::(S++Q),a) ⟨[],S,by simp,rfl,by simp⟩
 rintro⟨D,k⟩ ⟨A,B,hD,hk,hAB⟩
 simp only at hD hk⊢
 have hlen:n=P.length+(S.length+(Q.length+1)):=by rw[hn];simp;omega
 have hSl:S.length=A.length+B.length:=by rw[←hAB];simp
 obtain⟨i',hi'⟩ : ∃i',i'=a+S.length:=⟨_,rfl⟩
 have w1:IntKind.i64.wrap ((i:Int)-1)=(i':Int):=q7f (by omega) (by omega)
 cases B with
 |nil=>
  have h1:¬(k:Int)<(i':Int):=by simp at hSl;omega
  right
  simp only[qc0,w1,h1,Ev.ev1,zgy,↓qc,↓reduceIte,Nat.reduceEqDiff,reduceCtorEq]
  refine⟨_,rfl,rfl,rfl,?_⟩
  rw[hD,←hAB];simp
 |cons y B=>
  rw[List.length_cons]at hSl
  have h1:(k:Int)<(i':Int):=by omega
  have e1:D=(P++A)++x::y::(B++Q):=by rw[hD];simp
  have l1:k=(P++A).length:=by simp;omega
  obtain⟨j,hj⟩ : ∃j,j=k+1:=⟨_,rfl⟩
  have gx:D[k]? = some x:=qtz e1 l1
  have gy:D[j]? = some y:=qtz (L:=P++A++[x]) (M:=B++Q) (by rw[e1];simp) (by simp;omega)
  have ge:D.length=n:=by rw[e1,hlen];simp;omega
  have w2:IntKind.i64.wrap ((k:Int)+1)=(j:Int):=by rw[hj];exact qpo (by omega)
  have rj:j<n:=by omega
  have rk:k<n:=by omega
  have sw:=qah8 e1 l1 hj
  have hne:¬(k=j):=by omega
  left
  have hlo:=qq 1 ((D.set k y).set j x)
  refine⟨((D.set k y).set j x,j),?_,⟨A++[y],B,by rw[sw];simp,by simp;omega,by rw[←hAB];simp⟩,by simp only;omega⟩
  obtain⟨xt,xk,xl,xi,xp,xa⟩:=x
  obtain⟨yt,yk,yl,yi,yp,ya⟩:=y
  have hs : ∀v,((D.map Evt.r).set k v)[j]? = some (Evt.r ⟨yt,yk,yl,yi,yp,ya⟩):=fun v=>by rw[List.getElem?_set_ne hne,List.getElem?_map,gy];rfl
  simp only[List.map_set,Evt.r]at hlo
  simp only[qc0,zgs,zgr,zgq,zgt,gx,gy,hs,h1,w1,w2,rj,rk,hlo,List.map_set,Evt.r,Ev.ev1,Ev.stP,qb,Ev.AV.cells,Ev.AV.plain,Ev.SObj.lo,zgy,↓qc,↓reduceIte,Nat.reduceAdd,Nat.reduceEqDiff,reduceCtorEq]
theorem qafn (P S Q:List Evt) (x:Evt) (hn:n=(P++(S++x::Q)).length) (hb:n<2^61) (m i:Nat) (hi:i=P.length) (hm:m=i+S.length) :
  ∃y,itB (exec (evL T) itL none qcz) (qai [0,14,17] true 1) ⟨[(0,.sl 0 g 0 n cl),(14,(ii i)),(17,(ii m))],[]⟩ [.row 6 ((P++(S++x::Q)).map Evt.r) g]=some y ∧
   (y.1 = .exit 6∧y.2.1.marks=[]∧y.2.2=[.row 6 ((P++x::(S++Q)).map Evt.r) g]):=by
 refine qku (τ:=List Evt×Nat) (fun s=>⟨[(0,.sl 0 g 0 n cl),(14,(ii i)),(17,(ii s.2))],[]⟩) (fun s=>[.row 6 ((s.1).map Evt.r) g]) (fun s=>s.2)
  (fun s => ∃A B,s.1=P++(A++x::(B++Q))∧s.2=i+A.length∧A++B=S) _ ?_ (P++(S++x::Q),m) ⟨S,[],by simp,hm,by simp⟩
 rintro⟨D,j⟩ ⟨A,B,hD,hj,hAB⟩
 simp only at hD hj⊢
 have hlen:n=P.length+(S.length+(Q.length+1)):=by rw[hn];simp
 have hSl:S.length=A.length+B.length:=by rw[←hAB];simp
 rcases List.eq_nil_or_concat A with rfl|⟨A0,y,rfl⟩
 ·have h1:¬(j:Int)>(i:Int):=by simp at hj;omega
  right
  simp only[qcz,h1,Ev.ev1,zgy,↓qc,↓reduceIte,Nat.reduceEqDiff,reduceCtorEq]
  refine⟨_,rfl,rfl,rfl,?_⟩
  rw[hD,←hAB];simp
 ·simp only[List.concat_eq_append,zgp,zga,zgb]at hD hj hSl hAB
  obtain⟨k,hk1⟩ : ∃k,k=i+A0.length:=⟨_,rfl⟩
  have hjk:j=k+1:=by omega
  have h1:(j:Int)>(i:Int):=by omega
  have e1:D=(P++A0)++y::x::(B++Q):=by rw[hD];simp
  have l1:k=(P++A0).length:=by simp;omega
  have gy:D[k]? = some y:=qtz e1 l1
  have gx:D[j]? = some x:=qtz (L:=P++A0++[y]) (M:=B++Q) (by rw[e1];simp) (by simp;omega)
  have ge:D.length=n:=by rw[e1,hlen];simp;omega
  have ws:IntKind.i64.wrap ((j:Int)-1)=(k:Int):=q7f hjk (by omega)
  have rj:j<n:=by omega
  have rk:k<n:=by omega
  have sw:=qado e1 l1 hjk
  have hne:¬(j=k):=by omega
  left
  have hlo:=qq 1 ((D.set j y).set k x)
  refine⟨((D.set j y).set k x,k),?_,⟨A0,y::B,by rw[sw];simp,hk1,by rw[←hAB];simp⟩,by simp only;omega⟩
  obtain⟨xt,xk,xl,xi,xp,xa⟩:=x
  obtain⟨yt,yk,yl,yi,yp,ya⟩:=y
  have hs : ∀v,((D.map Evt.r).set j v)[k]? = some (Evt.r ⟨yt,yk,yl,yi,yp,ya⟩):=fun v=>by rw[List.getElem?_set_ne hne,List.getElem?_map,gy];rfl
  simp only[List.map_set,Evt.r]at hlo
  simp only[qcz,zgs,zgr,zgq,zgt,gx,gy,hs,h1,ws,rj,rk,hlo,List.map_set,Evt.r,Ev.ev1,Ev.stP,qb,Ev.AV.cells,Ev.AV.plain,Ev.SObj.lo,zgy,↓qc,↓reduceIte,Nat.reduceAdd,Nat.reduceEqDiff,reduceCtorEq]
theorem qc4.perm {D E:List Evt} (h:qc4 D) (p:E.Perm D):qc4 E:=fun x hx=>h x (p.mem_iff.1 hx)
theorem qai6 (P Y Q:List Evt) (x:Evt) (hY:Y.Pairwise leE) (hY0:0<Y.length) (hn:n=(P++x::(Y++Q)).length) (hb:n<2^61) (hk:qc4 (P++x::(Y++Q))) (a m b:Nat) (ha:a=P.length) (hm:m=a+1) (hbb:b=m+Y.length) :
  ∃Z:List Evt,Z.Perm (x::Y)∧Z.Pairwise leE∧(evL T).call qs [.sl 0 g 0 n cl,(ii a),(ii m),(ii b),(.fn (.func qd) [] [])] [.row 6 ((P++x::(Y++Q)).map Evt.r) g]=some (.tup [],[.row 6 ((P++(Z++Q)).map Evt.r) g]):=by
 have hlen:n=P.length+(1+(Y.length+Q.length)):=by rw[hn];simp;omega
 obtain⟨⟨y,e,σ⟩,k1,i,k2,k3,k4,k5,k6,k7,k8,k9,k10,k11⟩:=qae7 g cl n (P++x::(Y++Q)) x hn hb hk a m b (qtz rfl ha) (by omega) (by omega) (by omega)
 simp only at k1 k2 k3 k4 k5 k6 k7
 subst k2;subst k4
 obtain⟨Y1,Y2,rfl,hY1⟩ : ∃Y1 Y2,Y=Y1++Y2∧Y1.length=i-m:=⟨Y.take (i-m),Y.drop (i-m),(List.take_append_drop _ _).symm,by simp;omega⟩
 rw[List.length_append]at hbb hlen hY0
 obtain⟨⟨y',e',σ'⟩,l1,l2,l3,l4⟩:=qaft g cl n P Y1 (Y2++Q) x (by rw[hlen];simp;omega) hb a i ha (by omega)
 simp only at l1 l2 l3 l4
 subst l2;subst l4
 rw[List.append_assoc]at hk
 refine⟨Y1++x::Y2,List.perm_middle,qtm qox hY ?_ ?_,?_⟩
 ·intro u hu
  rcases k10 with h|h
  ·rw[show Y1=[] from List.eq_nil_of_length_eq_zero (by omega)]at hu;simp at hu
  ·have hlt:Y1.length-1<Y1.length:=(zei.1 hu).1
   refine h u ?_
   rw[←hu]
   exact q5m (L:=P++[x]) (X:=Y1) (M:=Y2++Q) (by simp) hlt (by simp;omega)
 ·intro v hv
  rcases k11 with h|h
  ·rw[show Y2=[] from List.eq_nil_of_length_eq_zero (by omega)]at hv;simp at hv
  ·have hlt:0<Y2.length:=(zei.1 hv).1
   refine h v ?_
   rw[←hv]
   exact q5m (L:=P++x::Y1) (X:=Y2) (M:=Q) (by simp) hlt (by simp;omega)
 ·have c1:(m:Int)-(a:Int)=1:=by omega
  have w1:IntKind.i64.wrap ((m:Int)-(a:Int))=1:=by rw[c1];exact qi (by omega) (by omega)
  rw[List.append_assoc]at k1⊢
  rw[qe qeq qel]
  simp only[List.append_assoc,zgm]
  simp only[qa6,w1,k1,k3,k5,k6,k7,l1,l3,qq,Ev.ev1,qh,Ev.SObj.lo,zgy,↓qc,↓qv,↓reduceIte,Nat.reduceAdd,Nat.reduceEqDiff,reduceCtorEq]
theorem qaiz (P X Q:List Evt) (x:Evt) (hX:X.Pairwise leE) (hX0:1<X.length) (hn:n=(P++(X++x::Q)).length) (hb:n<2^61) (hk:qc4 (P++(X++x::Q))) (a m b:Nat) (ha:a=P.length) (hm:m=a+X.length) (hbb:b=m+1) :
  ∃Z:List Evt,Z.Perm (X++[x])∧Z.Pairwise leE∧(evL T).call qs [.sl 0 g 0 n cl,(ii a),(ii m),(ii b),(.fn (.func qd) [] [])] [.row 6 ((P++(X++x::Q)).map Evt.r) g]=some (.tup [],[.row 6 ((P++(Z++Q)).map Evt.r) g]):=by
 have hlen:n=P.length+(X.length+(Q.length+1)):=by rw[hn];simp
 obtain⟨⟨y,e,σ⟩,k1,i,k2,k3,k4,k5,k6,k7,k8,k9,k10,k11⟩:=qafc g cl n (P++(X++x::Q)) x hn hb hk a m (qtz (L:=P++X) (M:=Q) (by simp) (by simp;omega)) (by omega) (by omega)
 simp only at k1 k2 k3 k4 k5 k6 k7
 subst k2;subst k4
 obtain⟨X1,X2,rfl,hX1⟩ : ∃X1 X2,X=X1++X2∧X1.length=i-a:=⟨X.take (i-a),X.drop (i-a),(List.take_append_drop _ _).symm,by simp;omega⟩
 rw[List.length_append]at hm hlen hX0
 obtain⟨⟨y',e',σ'⟩,l1,l2,l3,l4⟩:=qafn g cl n (P++X1) X2 Q x (by rw[hlen];simp;omega) hb m i (by simp;omega) (by omega)
 simp only at l1 l2 l3 l4
 subst l2;subst l4
 refine⟨X1++x::X2,?_,qtm qox hX ?_ ?_,?_⟩
 ·rw[List.append_assoc]
  exact List.Perm.append_left X1 (List.perm_append_singleton x X2).symm
 ·intro u hu
  rcases k10 with h|h
  ·rw[show X1=[] from List.eq_nil_of_length_eq_zero (by omega)]at hu;simp at hu
  ·have hlt:X1.length-1<X1.length:=(zei.1 hu).1
   refine h u ?_
   rw[←hu]
   exact q5m (L:=P) (X:=X1) (M:=X2++x::Q) (by simp) hlt (by omega)
 ·intro v hv
  rcases k11 with h|h
  ·rw[show X2=[] from List.eq_nil_of_length_eq_zero (by omega)]at hv;simp at hv
  ·have hlt:0<X2.length:=(zei.1 hv).1
   refine h v ?_
   rw[←hv]
   exact q5m (L:=P++X1) (X:=X2) (M:=x::Q) (by simp) hlt (by simp;omega)
 ·have w1:IntKind.i64.wrap ((m:Int)-(a:Int))=((X1.length+X2.length:Nat):Int):=qo0 hm (by omega)
  have h1:¬((X1.length+X2.length:Nat):Int)=1:=by omega
  have w2:IntKind.i64.wrap ((b:Int)-(m:Int))=1:=by rw[show (b:Int)-(m:Int)=1 by omega];exact qi (by omega) (by omega)
  rw[qe qeq qel]
  simp only[List.append_assoc,zgm]at k1 l1⊢
  simp only[qa6,w1,w2,h1,k1,k3,k5,k6,k7,l1,l3,qq,Ev.ev1,qh,Ev.SObj.lo,zgy,↓qc,↓qv,↓reduceIte,Nat.reduceAdd,Nat.reduceEqDiff,reduceCtorEq]
end
open Go.Ev
set_option maxRecDepth 10000
section
variable (g:Nat) (cl:Bool) (n:Nat)
def qsf (a m b:Nat) (D D':List Evt):Prop:=(evL T).call qs [.sl 0 g 0 n cl,(ii a),(ii m),(ii b),(.fn (.func qd) [] [])] [.row 6 ((D).map Evt.r) g]=some (.tup [],[.row 6 ((D').map Evt.r) g])
structure Nums (x1 x2 y1 y2 a m b mid nn lo hi p start fin:Nat):Prop where
 hX1:1<x1+x2
 hY1:1<y1+y2
 hb:n<2^61
 hmid:mid=(a+b) / 2
 hnn:nn=mid+m
 hp:nn=p+1
 hfin:nn=start+fin
 hm:m=a+(x1+x2)
 hbb:b=m+(y1+y2)
 hbn:b≤n
 hst:start=a+x1
 hfi:fin=m+y1
structure Wraps (x1 x2 y1 y2 a m b mid nn p start fin:Nat):Prop where
 w1:IntKind.i64.wrap ((m:Int)-(a:Int))=((x1+x2:Nat):Int)
 h1:¬((x1+x2:Nat):Int)=1
 w2:IntKind.i64.wrap ((b:Int)-(m:Int))=((y1+y2:Nat):Int)
 h2:¬((y1+y2:Nat):Int)=1
 w3:IntKind.i64.wrap ((a:Int)+(b:Int))=((a+b:Nat):Int)
 w4:IntKind.u64.wrap ((a+b:Nat):Int)=((a+b:Nat):Int)
 w5:qok .shr (.v (.int .u64 ((a+b:Nat):Int))) (.v (.int .u64 1))=some (.v (.int .u64 (mid:Int)))
 w6:IntKind.i64.wrap (mid:Int)=(mid:Int)
 w7:IntKind.i64.wrap ((mid:Int)+(m:Int))=(nn:Int)
 w8:IntKind.i64.wrap ((nn:Int)-1)=(p:Int)
 w9:IntKind.i64.wrap ((nn:Int)-(start:Int))=(fin:Int)
 c5:mid<fin↔start<m
 c6:start<mid↔m<fin
theorem Nums.wraps {n x1 x2 y1 y2 a m b mid nn lo hi p start fin:Nat} (N:Nums n x1 x2 y1 y2 a m b mid nn lo hi p start fin):Wraps x1 x2 y1 y2 a m b mid nn p start fin:=by
 obtain⟨hX1,hY1,hb,hmid,hnn,hp,hfin,hm,hbb,hbn,hst,hfi⟩:=N
 refine⟨qo0 hm (by omega),by omega,qo0 hbb (by omega),by omega,qoy (by omega),qy6 (by omega),q29 (a+b) mid hmid,qy5 (by omega),?_,q7f hp (by omega),qo0 hfin (by omega),by omega,by omega⟩
 rw[hnn];exact qoy (by omega)
structure Steps (a m b mid start fin:Nat) (D D2 D3 D4:List Evt):Prop where
 s1:start<m→m<fin→(evL T).call qav [.sl 0 g 0 n cl,(ii start),(ii m),(ii fin),(.fn (.func qd) [] [])] [.row 6 ((D).map Evt.r) g]=some (.tup [],[.row 6 ((D2).map Evt.r) g])
 n1:¬(start<m∧m<fin)→D2=D
 s2:a<start→start<mid→qsf g cl n a start mid D2 D3
 n2:¬(a<start∧start<mid)→D3=D2
 s3:mid<fin→fin<b→qsf g cl n mid fin b D3 D4
 n3:¬(mid<fin∧fin<b)→D4=D3
set_option maxHeartbeats 8000000 in
theorem qakk (x1 x2 y1 y2 a m b mid nn lo hi p start fin:Nat) (D D2 D3 D4:List Evt) (N:Nums n x1 x2 y1 y2 a m b mid nn lo hi p start fin) (hlo:mid<m∧nn=b+lo∧hi=mid∨¬mid<m∧lo=a∧hi=m)
  (hfind : ∃y,itB (exec (evL T) itL none qa7) (qai [0,1,2,3,4,18,19,20,21,22] true 1) ⟨[(0,.sl 0 g 0 n cl),(1,(ii a)),(2,(ii m)),(3,(ii b)),(4,(.fn (.func qd) [] [])),(18,(ii mid)),(19,(ii nn)),(20,(ii lo)),(21,(ii hi)),(22,(ii p))],[]⟩ [.row 6 ((D).map Evt.r) g]=some y ∧
   (y.1 = .exit 8∧y.2.1.marks=[]∧y.2.2=[.row 6 ((D).map Evt.r) g]∧Ev.look y.2.1.vars 0=some (.sl 0 g 0 n cl)∧Ev.look y.2.1.vars 1=some (ii a)∧Ev.look y.2.1.vars 2=some (ii m)∧Ev.look y.2.1.vars 3=some (ii b)∧Ev.look y.2.1.vars 4=some (.fn (.func qd) [] [])∧Ev.look y.2.1.vars 18=some (ii mid) ∧
    Ev.look y.2.1.vars 19=some (ii nn)∧Ev.look y.2.1.vars 20=some (ii start)))
  (s1:start<m→m<fin→(evL T).call qav [.sl 0 g 0 n cl,(ii start),(ii m),(ii fin),(.fn (.func qd) [] [])] [.row 6 ((D).map Evt.r) g]=some (.tup [],[.row 6 ((D2).map Evt.r) g])) (n1:¬(start<m∧m<fin)→D2=D)
  (s2:a<start→start<mid→qsf g cl n a start mid D2 D3) (n2:¬(a<start∧start<mid)→D3=D2)
  (s3:mid<fin→fin<b→qsf g cl n mid fin b D3 D4) (n3:¬(mid<fin∧fin<b)→D4=D3):qsf g cl n a m b D D4:=by
 obtain⟨⟨y,e,σ⟩,k1,k2,k3,k4,k5,k6,k7,k8,k9,k10,k11,k12⟩:=hfind
 obtain⟨w1,h1,w2,h2,w3,w4,w5,w6,w7,w8,w9,c5,c6⟩:=N.wraps
 simp only at k1 k2 k3 k4 k5 k6 k7 k8 k9 k10 k11 k12
 subst k2;subst k4
 unfold qsf at *
 rw[qe qeq qel]
 have g5:mid<m→IntKind.i64.wrap ((nn:Int)-(b:Int))=(lo:Int):=fun g=>by
  rcases hlo with ⟨_,g2,_⟩|⟨g1,_⟩
  ·exact qo0 g2 (by have:=N.hnn;have:=N.hmid;have:=N.hb;have:=N.hbn;have:=N.hm;have:=N.hbb;omega)
  ·exact absurd g g1
 have l1:¬mid<m→lo=a:=fun g=>hlo.elim (fun h=>absurd h.1 g) fun h=>h.2.1
 have l2:¬mid<m→hi=m:=fun g=>hlo.elim (fun h=>absurd h.1 g) fun h=>h.2.2
 have l3:mid<m→hi=mid:=fun g=>hlo.elim (fun h=>h.2.2) fun h=>absurd g h.1
 clear hlo N
 rcases Classical.em (start<m)with d1|d1<;>rcases Classical.em (m<fin)with d2|d2<;>rcases Classical.em (a<start)with d3|d3<;>rcases Classical.em (fin<b)with d4|d4
 all_goals
  try (have r:=n1 (by first|exact fun h=>d1 h.1|exact fun h=>d2 h.2);subst r)
  try (have r:=n2 (by first|exact fun h=>d3 h.1|exact fun h=>d2 (c6.1 h.2));subst r)
  try (have r:=n3 (by first|exact fun h=>d4 h.2|exact fun h=>d1 (c5.1 h.1));subst r)
  try replace s1:=s1 d1 d2
  try replace s2:=s2 d3 (c6.2 d2)
  try replace s3:=s3 (c5.2 d1) d4
  rcases Classical.em (mid<m)with g1|g1
  ·have g:=g5 g1
   have l:=l3 g1
   subst l
   simp only[qa6,w1,w2,w3,w4,w5,w6,w7,w8,w9,h1,h2,gt_iff_lt,Int.ofNat_lt,g1,g,k1,k3,k5,k6,k7,k8,k9,k10,k11,k12,c5,c6,d1,d2,d3,d4,s1,s2,s3,qq,Ev.ev1,qh,Ev.SObj.lo,zgy,↓qc,↓qv,↓reduceIte,Nat.reduceAdd,Nat.reduceEqDiff,reduceCtorEq]
  ·have l:=l1 g1
   have l':=l2 g1
   subst l;subst l'
   simp only[qa6,w1,w2,w3,w4,w5,w6,w7,w8,w9,h1,h2,gt_iff_lt,Int.ofNat_lt,g1,k1,k3,k5,k6,k7,k8,k9,k10,k11,k12,c5,c6,d1,d2,d3,d4,s1,s2,s3,qq,Ev.ev1,qh,Ev.SObj.lo,zgy,↓qc,↓qv,↓reduceIte,Nat.reduceAdd,Nat.reduceEqDiff,reduceCtorEq]
end
open Go.Ev
set_option maxRecDepth 10000
section
variable (g:Nat) (cl:Bool) (n:Nat)
theorem q78 (hb:n<2^61) : ∀(k:Nat) (P X Y Q:List Evt),X.length+Y.length≤k→0<X.length→0<Y.length→X.Pairwise leE→Y.Pairwise leE→n=(P++(X++(Y++Q))).length→qc4 (P++(X++(Y++Q))) →
  ∀a m b:Nat,a=P.length→m=a+X.length→b=m+Y.length → ∃Z:List Evt,Z.Perm (X++Y)∧Z.Pairwise leE∧qsf g cl n a m b (P++(X++(Y++Q))) (P++(Z++Q)):=by
 intro k
 induction k with
 |zero=>intro P X Y Q h1 h2 h3;omega
 |succ k ih=>
  intro P X Y Q hk hX0 hY0 hX hY hn hkeys a m b ha hm hbb
  by_cases hx:X.length=1
  ·obtain⟨x,rfl⟩:=List.length_eq_one_iff.1 hx
   simp only[zgm,zgl,zga,zgb]at hn hkeys hm⊢
   exact qai6 g cl n P Y Q x hY hY0 hn hb hkeys a m b ha hm hbb
  by_cases hy:Y.length=1
  ·obtain⟨y,rfl⟩:=List.length_eq_one_iff.1 hy
   simp only[zgm,zgl,zga,zgb]at hn hkeys hbb⊢
   exact qaiz g cl n P X Q y hX (by omega) hn hb hkeys a m b ha hm hbb
  have hlen:n=P.length+(X.length+(Y.length+Q.length)):=by rw[hn];simp
  obtain⟨mid,hmid⟩ : ∃mid,mid=(a+b) / 2:=⟨_,rfl⟩
  obtain⟨nn,hnn⟩ : ∃nn,nn=mid+m:=⟨_,rfl⟩
  obtain⟨p,hp⟩ : ∃p,nn=p+1:=⟨nn-1,by omega⟩
  obtain⟨lo,hi,hlo⟩ : ∃lo hi,mid<m∧nn=b+lo∧hi=mid∨¬mid<m∧lo=a∧hi=m:=by
   by_cases c:mid<m
   ·exact⟨nn-b,mid,.inl ⟨c,by omega,rfl⟩⟩
   ·exact⟨a,m,.inr ⟨c,rfl,rfl⟩⟩
  obtain⟨y,f1,start,f2,f3,f4,f5,f6,f7,f8,f9,f10,f11,f12,f13,f14,f15,f16⟩:=qaf7 g cl n (P++(X++(Y++Q))) hn hb hkeys a m b mid nn p lo hi hp (by omega) (fun c h1 h2=>by omega) (by omega) (by omega)
  obtain⟨fin,hfin⟩ : ∃fin,nn=start+fin:=⟨nn-start,by omega⟩
  obtain⟨X1,X2,rfl,hX1⟩ : ∃X1 X2,X=X1++X2∧X1.length=start-a:=⟨X.take (start-a),X.drop (start-a),(List.take_append_drop _ _).symm,by simp;omega⟩
  obtain⟨Y1,Y2,rfl,hY1⟩ : ∃Y1 Y2,Y=Y1++Y2∧Y1.length=fin-m:=⟨Y.take (fin-m),Y.drop (fin-m),(List.take_append_drop _ _).symm,by simp;omega⟩
  simp only[zgp]at hk hX0 hY0 hx hy hm hbb hlen
  obtain⟨x1,x2,x3⟩:=List.pairwise_append.1 hX
  obtain⟨y1,y2,y3⟩:=List.pairwise_append.1 hY
  have hst:start=a+X1.length:=by omega
  have hfi:fin=m+Y1.length:=by omega
  have N:Nums n X1.length X2.length Y1.length Y2.length a m b mid nn lo hi p start fin:=⟨by omega,by omega,hb,hmid,hnn,hp,hfin,hm,hbb,by omega,hst,hfi⟩
  simp only[List.append_assoc]at f1 f4 f15 f16 hn hkeys⊢
  have hk2:qc4 (P++(X1++(Y1++(X2++(Y2++Q))))):=by
   intro z hz;refine hkeys z ?_
   simp only[List.mem_append]at hz⊢
   rcases hz with h|h|h|h|h|h
   ·exact .inl h
   ·exact .inr (.inl h)
   ·exact .inr (.inr (.inr (.inl h)))
   ·exact .inr (.inr (.inl h))
   ·exact .inr (.inr (.inr (.inr (.inl h))))
   ·exact .inr (.inr (.inr (.inr (.inr h))))
  obtain⟨Z1,p1,q1,s2,n2⟩ : ∃Z1:List Evt,Z1.Perm (X1++Y1)∧Z1.Pairwise leE∧(a<start→start<mid→qsf g cl n a start mid (P++(X1++(Y1++(X2++(Y2++Q))))) (P++(Z1++(X2++(Y2++Q)))))∧(¬(a<start∧start<mid)→P++(Z1++(X2++(Y2++Q)))=P++(X1++(Y1++(X2++(Y2++Q))))):=by
   by_cases c:a<start∧start<mid
   ·obtain⟨Z,p1,q1,r1⟩:=ih P X1 Y1 (X2++(Y2++Q)) (by omega) (by omega) (by omega) x1 y1 (by rw[hlen];simp;omega) hk2 a start mid ha hst (by omega)
    exact⟨Z,p1,q1,fun _ _=>r1,fun h=>absurd c h⟩
   ·refine⟨X1++Y1,.refl _,?_,fun h1 h2=>absurd ⟨h1,h2⟩ c,fun _=>by simp⟩
    by_cases c1:a<start
    ·rw[show Y1=[] from List.eq_nil_of_length_eq_zero (by omega),List.append_nil];exact x1
    ·rw[show X1=[] from List.eq_nil_of_length_eq_zero (by omega),List.nil_append];exact y1
  have lz:=p1.length_eq
  rw[List.length_append]at lz
  have hk3:qc4 (P++Z1++(X2++(Y2++Q))):=by
   intro z hz;refine hk2 z ?_
   have:=p1.mem_iff (a:=z)
   simp only[List.mem_append]at hz this⊢
   rcases hz with (h|h)|h
   ·exact .inl h
   ·rcases this.1 h with h|h
    ·exact .inr (.inl h)
    ·exact .inr (.inr (.inl h))
   ·exact .inr (.inr (.inr h))
  obtain⟨Z2,p2,q2,s3,n3⟩ : ∃Z2:List Evt,Z2.Perm (X2++Y2)∧Z2.Pairwise leE∧(mid<fin→fin<b→qsf g cl n mid fin b (P++(Z1++(X2++(Y2++Q)))) (P++(Z1++(Z2++Q))))∧(¬(mid<fin∧fin<b)→P++(Z1++(Z2++Q))=P++(Z1++(X2++(Y2++Q)))):=by
   by_cases c:mid<fin∧fin<b
   ·obtain⟨Z,p2,q2,r2⟩:=ih (P++Z1) X2 Y2 Q (by omega) (by omega) (by omega) x2 y2 (by rw[hlen];simp;omega) hk3 mid fin b (by simp;omega) (by omega) (by omega)
    simp only[List.append_assoc]at r2
    exact⟨Z,p2,q2,fun _ _=>r2,fun h=>absurd c h⟩
   ·refine⟨X2++Y2,.refl _,?_,fun h1 h2=>absurd ⟨h1,h2⟩ c,fun _=>by simp⟩
    by_cases c1:mid<fin
    ·rw[show Y2=[] from List.eq_nil_of_length_eq_zero (by omega),List.append_nil];exact x2
    ·rw[show X2=[] from List.eq_nil_of_length_eq_zero (by omega),List.nil_append];exact y2
  have ms:=qaf3 qox hX hY (Z1:=Z1) (Z2:=Z2) ?_ ?_ p1 p2 q1 q2
  ·refine⟨Z1++Z2,by simpa using ms.1,ms.2,?_⟩
   simp only[List.append_assoc]
   refine qakk g cl n X1.length X2.length Y1.length Y2.length a m b mid nn lo hi p start fin _ _ _ _ N hlo ⟨y,f1,f2,f3,f4,f5,f6,f7,f8,f9,f10,f11,f12⟩ ?_ ?_ s2 n2 s3 n3
   ·intro c1 c2
    have r:=qake g cl n (P++X1) X2 Y1 (Y2++Q) (by omega) (by omega) (by rw[hlen];simp;omega) hb start m fin (by simp;omega) (by omega) (by omega)
    simpa only[List.append_assoc]using r
   ·intro c
    by_cases c1:start<m
    ·rw[show Y1=[] from List.eq_nil_of_length_eq_zero (by omega)];simp
    ·rw[show X2=[] from List.eq_nil_of_length_eq_zero (by omega)];simp
  ·intro u v hu hv
   have hlt:X1.length-1<X1.length:=(zei.1 hu).1
   have hlt2:0<Y2.length:=(zei.1 hv).1
   rcases f15 with h|h
   ·omega
   ·refine h u v ?_ ?_
    ·rw[←hu];exact q5m (L:=P) (X:=X1) (M:=X2++(Y1++(Y2++Q))) rfl hlt (by omega)
    ·rw[←hv];exact q5m (L:=P++(X1++(X2++Y1))) (X:=Y2) (M:=Q) (by simp) hlt2 (by simp;omega)
  ·intro u v hu hv
   have hlt:Y1.length-1<Y1.length:=(zei.1 hu).1
   have hlt2:0<X2.length:=(zei.1 hv).1
   rcases f16 with h|h
   ·omega
   ·refine h u v ?_ ?_
    ·rw[←hu];exact q5m (L:=P++(X1++X2)) (X:=Y1) (M:=Y2++Q) (by simp) hlt (by simp;omega)
    ·rw[←hv];exact q5m (L:=P++X1) (X:=X2) (M:=Y1++(Y2++Q)) (by simp) hlt2 (by simp;omega)
end
open Go.Ev
set_option maxRecDepth 10000
theorem qahb {a:Nat} (h:a<2^61):IntKind.i64.wrap (2*(a:Int))=((2*a:Nat):Int):=by rw[qi (by omega) (by omega)];omega
theorem qak0 {a:Nat} (h:a<2^61):IntKind.i64.wrap ((a:Int)*2)=((2*a:Nat):Int):=by rw[qi (by omega) (by omega)];omega
section
variable (g:Nat) (cl:Bool) (n:Nat)
theorem qaj1 (l:List Evt) (hn:n=l.length) (hb:n<2^58) (hk:qc4 l) :
  ∃y,itB (exec (evL T) itL none qb4) (qai [0,1,2,6,7,8] true 1) ⟨[(0,.sl 0 g 0 n cl),(1,(ii n)),(2,(.fn (.func qd) [] [])),(6,(ii 20)),(7,(ii 0)),(8,(ii 20))],[]⟩ [.row 6 ((l).map Evt.r) g]=some y ∧
   ∃a:Nat,y.1 = .exit 0∧y.2.1.marks=[]∧Ev.look y.2.1.vars 0=some (.sl 0 g 0 n cl)∧Ev.look y.2.1.vars 1=some (ii n)∧Ev.look y.2.1.vars 2=some (.fn (.func qd) [] [])∧Ev.look y.2.1.vars 6=some (ii 20)∧Ev.look y.2.1.vars 7=some (ii a) ∧
    ∃Dn Rs:List Evt,y.2.2=[.row 6 ((Dn++Rs).map Evt.r) g]∧a=Dn.length∧(Dn++Rs).Perm l∧Rs.length<20 ∧ ∀t,Blk leE 20 t→Blk leE 20 (Dn++t):=by
 have key:=qku (f:=exec (evL T) itL none qb4) (s:=qai [0,1,2,6,7,8] true 1) (τ:=List Evt×Nat)
  (fun s=>⟨[(0,.sl 0 g 0 n cl),(1,(ii n)),(2,(.fn (.func qd) [] [])),(6,(ii 20)),(7,(ii s.2)),(8,(ii ((s.2+20:Nat))))],[]⟩) (fun s=>[.row 6 ((s.1).map Evt.r) g]) (fun s=>n+20-s.2)
  (fun s => ∃Dn Rs,s.1=Dn++Rs∧s.2=Dn.length∧(Dn++Rs).Perm l ∧ ∀t,Blk leE 20 t→Blk leE 20 (Dn++t))
  (fun y => ∃a:Nat,y.1 = .exit 0∧y.2.1.marks=[]∧Ev.look y.2.1.vars 0=some (.sl 0 g 0 n cl)∧Ev.look y.2.1.vars 1=some (ii n)∧Ev.look y.2.1.vars 2=some (.fn (.func qd) [] [])∧Ev.look y.2.1.vars 6=some (ii 20)∧Ev.look y.2.1.vars 7=some (ii a) ∧
    ∃Dn Rs:List Evt,y.2.2=[.row 6 ((Dn++Rs).map Evt.r) g]∧a=Dn.length∧(Dn++Rs).Perm l∧Rs.length<20 ∧ ∀t,Blk leE 20 t→Blk leE 20 (Dn++t)) ?_ (l,0) ⟨[],l,rfl,rfl,.refl _,fun t h=>h⟩
 ·exact key
 rintro⟨D,a⟩ ⟨Dn,Rs,hD,ha,hp,hB⟩
 simp only at hD ha⊢
 have hl:=hp.length_eq
 rw[List.length_append]at hl
 by_cases c:a+20≤n
 case neg=>
  have h1:¬((a+20:Nat):Int)≤(n:Int):=by omega
  right
  simp only[qb4,h1,Ev.ev1,zgy,↓qc,↓reduceIte,Nat.reduceEqDiff,reduceCtorEq]
  exact⟨_,rfl,a,rfl,rfl,rfl,rfl,rfl,rfl,rfl,Dn,Rs,by rw[hD],ha,hp,by omega,hB⟩
 have h1:((a+20:Nat):Int)≤(n:Int):=by omega
 obtain⟨S,Q,rfl,hS⟩ : ∃S Q,Rs=S++Q∧S.length=20:=⟨Rs.take 20,Rs.drop 20,(List.take_append_drop _ _).symm,by simp;omega⟩
 rw[List.length_append]at hl
 have hkD:qc4 (Dn++(S++Q)):=hk.perm hp
 obtain⟨S',p1,q1,r1⟩:=q5r g cl n Dn S Q (by simp;omega) (by omega) hkD a (a+20) ha (by omega)
 have w1:IntKind.i64.wrap (((a+20:Nat):Int)+20)=((a+20+20:Nat):Int):=by rw[qi (by omega) (by omega)];omega
 rw[←hD]at r1
 left
 refine⟨(Dn++(S'++Q),a+20),?_,⟨Dn++S',Q,by simp,?_,?_,?_⟩,by simp only;omega⟩
 ·simp only[qb4,h1,w1,r1,qq,Ev.ev1,Ev.SObj.lo,zgy,↓qc,↓reduceIte,Nat.reduceEqDiff,reduceCtorEq]
 ·have:=p1.length_eq;simp;omega
 ·rw[List.append_assoc];exact(List.Perm.append_left Dn (p1.append_right Q)).trans hp
 ·intro t ht
  rw[List.append_assoc]
  exact hB _ (.more (by rw[p1.length_eq];exact hS) q1 ht)
theorem qama (l D0:List Evt) (hn:n=l.length) (hb:n<2^58) (hk:qc4 l) (s:Nat) (hs:0<s) (hsn:s<n) (hp0:D0.Perm l) (hB0:Blk leE s D0) :
  ∃y,itB (exec (evL T) itL none qb2) (qai [0,1,2,6,7,8] true 1) ⟨[(0,.sl 0 g 0 n cl),(1,(ii n)),(2,(.fn (.func qd) [] [])),(6,(ii s)),(7,(ii 0)),(8,(ii ((2*s:Nat))))],[]⟩ [.row 6 ((D0).map Evt.r) g]=some y ∧
   ∃a:Nat,y.1 = .exit 4∧y.2.1.marks=[]∧Ev.look y.2.1.vars 0=some (.sl 0 g 0 n cl)∧Ev.look y.2.1.vars 1=some (ii n)∧Ev.look y.2.1.vars 2=some (.fn (.func qd) [] [])∧Ev.look y.2.1.vars 6=some (ii s)∧Ev.look y.2.1.vars 7=some (ii a) ∧
    ∃Dn Rs:List Evt,y.2.2=[.row 6 ((Dn++Rs).map Evt.r) g]∧a=Dn.length∧(Dn++Rs).Perm l∧Rs.length<2*s∧Blk leE s Rs ∧ ∀t,Blk leE (2*s) t→Blk leE (2*s) (Dn++t):=by
 have key:=qku (f:=exec (evL T) itL none qb2) (s:=qai [0,1,2,6,7,8] true 1) (τ:=List Evt×Nat)
  (fun z=>⟨[(0,.sl 0 g 0 n cl),(1,(ii n)),(2,(.fn (.func qd) [] [])),(6,(ii s)),(7,(ii z.2)),(8,(ii ((z.2+2*s:Nat))))],[]⟩) (fun z=>[.row 6 ((z.1).map Evt.r) g]) (fun z=>n+2*s-z.2)
  (fun z => ∃Dn Rs,z.1=Dn++Rs∧z.2=Dn.length∧(Dn++Rs).Perm l∧Blk leE s Rs ∧ ∀t,Blk leE (2*s) t→Blk leE (2*s) (Dn++t))
  (fun y => ∃a:Nat,y.1 = .exit 4∧y.2.1.marks=[]∧Ev.look y.2.1.vars 0=some (.sl 0 g 0 n cl)∧Ev.look y.2.1.vars 1=some (ii n)∧Ev.look y.2.1.vars 2=some (.fn (.func qd) [] [])∧Ev.look y.2.1.vars 6=some (ii s)∧Ev.look y.2.1.vars 7=some (ii a) ∧
    ∃Dn Rs:List Evt,y.2.2=[.row 6 ((Dn++Rs).map Evt.r) g]∧a=Dn.length∧(Dn++Rs).Perm l∧Rs.length<2*s∧Blk leE s Rs ∧ ∀t,Blk leE (2*s) t→Blk leE (2*s) (Dn++t)) ?_ (D0,0) ⟨[],D0,rfl,rfl,hp0,hB0,fun t h=>h⟩
 ·simp only[zfd]at key;exact key
 rintro⟨D,a⟩ ⟨Dn,Rs,hD,ha,hp,hR,hB⟩
 simp only at hD ha⊢
 have hl:=hp.length_eq
 rw[List.length_append]at hl
 by_cases c:a+2*s≤n
 case neg=>
  have h1:¬((a+2*s:Nat):Int)≤(n:Int):=by omega
  right
  simp only[qb2,h1,Ev.ev1,zgy,↓qc,↓reduceIte,Nat.reduceEqDiff,reduceCtorEq]
  exact⟨_,rfl,a,rfl,rfl,rfl,rfl,rfl,rfl,rfl,Dn,Rs,by rw[hD],ha,hp,by omega,hR,hB⟩
 have h1:((a+2*s:Nat):Int)≤(n:Int):=by omega
 obtain⟨X,Y,Q,rfl,hX,hY,qX,qY,hQ⟩ : ∃X Y Q,Rs=X++(Y++Q)∧X.length=s∧Y.length=s∧X.Pairwise leE∧Y.Pairwise leE∧Blk leE s Q:=by
  obtain⟨X,R1,rfl,h2,h3,h4⟩:=hR.split (by omega)
  rw[List.length_append]at hl
  by_cases c2:R1.length≤s
  ·exact⟨X,R1,[],by simp,h2,by omega,h3,h4.sorted c2,.nil⟩
  ·obtain⟨Y,Q,rfl,h5,h6,h7⟩:=h4.split (by omega)
   exact⟨X,Y,Q,rfl,h2,h5,h3,h6,h7⟩
 rw[List.length_append,List.length_append]at hl
 have hkD:qc4 (Dn++(X++(Y++Q))):=hk.perm hp
 obtain⟨Z,p1,q1,r1⟩:=q78 g cl n (by omega) _ Dn X Y Q (Nat.le_refl _) (by omega) (by omega) qX qY (by simp;omega) hkD a (a+s) (a+2*s) ha (by omega) (by omega)
 have w1:IntKind.i64.wrap ((a:Int)+(s:Int))=((a+s:Nat):Int):=qoy (by omega)
 have w2:IntKind.i64.wrap (2*(s:Int))=((2*s:Nat):Int):=qahb (by omega)
 have w3:IntKind.i64.wrap (((a+2*s:Nat):Int)+((2*s:Nat):Int))=((a+2*s+2*s:Nat):Int):=qoy (by omega)
 unfold qsf at r1
 rw[←hD]at r1
 have hz:=p1.length_eq
 rw[List.length_append]at hz
 left
 refine⟨(Dn++(Z++Q),a+2*s),?_,⟨Dn++Z,Q,by simp,?_,?_,hQ,?_⟩,by simp only;omega⟩
 ·simp only[qb2,h1,w1,w2,w3,r1,qq,Ev.ev1,Ev.SObj.lo,zgy,↓qc,↓reduceIte,Nat.reduceEqDiff,reduceCtorEq]
 ·simp;omega
 ·rw[List.append_assoc]
  refine(List.Perm.append_left Dn (p1.append_right Q)).trans ?_
  rw[List.append_assoc];exact hp
 ·intro t ht
  rw[List.append_assoc]
  exact hB _ (.more (by omega) q1 ht)
theorem qajq (l D0:List Evt) (hn:n=l.length) (hb:n<2^58) (hk:qc4 l) (hp0:D0.Perm l) (hB0:Blk leE 20 D0) :
  ∃y,itB (exec (evL T) itL none qbi) (qai [0,1,2,6] true 1) ⟨[(0,.sl 0 g 0 n cl),(1,(ii n)),(2,(.fn (.func qd) [] [])),(6,(ii 20))],[]⟩ [.row 6 ((D0).map Evt.r) g]=some y ∧
   (y.1 = .exit 2∧y.2.1.marks=[] ∧ ∃l':List Evt,y.2.2=[.row 6 ((l').map Evt.r) g]∧l'.Perm l∧l'.Pairwise leE):=by
 have key:=qku (f:=exec (evL T) itL none qbi) (s:=qai [0,1,2,6] true 1) (τ:=List Evt×Nat)
  (fun z=>⟨[(0,.sl 0 g 0 n cl),(1,(ii n)),(2,(.fn (.func qd) [] [])),(6,(ii z.2))],[]⟩) (fun z=>[.row 6 ((z.1).map Evt.r) g]) (fun z=>n-z.2)
  (fun z=>z.1.Perm l∧0<z.2∧Blk leE z.2 z.1)
  (fun y=>y.1 = .exit 2∧y.2.1.marks=[] ∧ ∃l':List Evt,y.2.2=[.row 6 ((l').map Evt.r) g]∧l'.Perm l∧l'.Pairwise leE) ?_ (D0,20) ⟨hp0,by simp,hB0⟩
 ·exact key
 rintro⟨D,s⟩ ⟨hp,hs,hB⟩
 simp only at hp hs hB⊢
 have hl:=hp.length_eq
 by_cases c:s<n
 case neg=>
  have h1:¬(s:Int)<(n:Int):=by omega
  right
  simp only[qbi,h1,Ev.ev1,zgy,↓qc,↓reduceIte,Nat.reduceEqDiff,reduceCtorEq]
  exact⟨_,rfl,rfl,rfl,D,rfl,hp,hB.sorted (by omega)⟩
 have h1:(s:Int)<(n:Int):=by omega
 obtain⟨⟨y,e,σ⟩,k1,a,k2,k3,k4,k5,k6,k7,k8,Dn,Rs,k9,k10,k11,k12,k13,k14⟩:=qama g cl n l D hn hb hk s hs c hp hB
 simp only at k1 k2 k3 k4 k5 k6 k7 k8 k9
 subst k2;subst k9
 have hl2:=k11.length_eq
 rw[List.length_append]at hl2
 have w1:IntKind.i64.wrap ((a:Int)+(s:Int))=((a+s:Nat):Int):=qoy (by omega)
 have w2:IntKind.i64.wrap (2*(s:Int))=((2*s:Nat):Int):=qahb (by omega)
 have w3:IntKind.i64.wrap ((s:Int)*2)=((2*s:Nat):Int):=qak0 (by omega)
 left
 by_cases c2:a+s<n
 ·have h2:((a+s:Nat):Int)<(n:Int):=by omega
  obtain⟨X,Y,rfl,hX,qX,hY⟩:=k13.split (by omega)
  rw[List.length_append]at hl2 k12
  have hkD:qc4 (Dn++(X++(Y++[]))):=by rw[List.append_nil];exact hk.perm k11
  obtain⟨Z,p1,q1,r1⟩:=q78 g cl n (by omega) _ Dn X Y [] (Nat.le_refl _) (by omega) (by omega) qX (hY.sorted (by omega)) (by simp;omega) hkD a (a+s) n k10 (by omega) (by omega)
  unfold qsf at r1
  simp only[zgn]at r1
  have hz:=p1.length_eq
  rw[List.length_append]at hz
  refine⟨(Dn++Z,2*s),?_,⟨(List.Perm.append_left Dn p1).trans k11,by simp only;omega,k14 _ (.last (by omega) q1)⟩,by simp only;omega⟩
  simp only[qbi,h1,h2,w1,w2,w3,k1,k3,k4,k5,k6,k7,k8,r1,qq,Ev.ev1,Ev.SObj.lo,zgy,↓qc,↓qv,↓reduceIte,Nat.reduceEqDiff,reduceCtorEq]
 ·have h2:¬((a+s:Nat):Int)<(n:Int):=by omega
  refine⟨(Dn++Rs,2*s),?_,⟨k11,by simp only;omega,k14 _ (.last (by omega) (k13.sorted (by omega)))⟩,by simp only;omega⟩
  simp only[qbi,h1,h2,w1,w2,w3,k1,k3,k4,k5,k6,k7,k8,qq,Ev.ev1,Ev.SObj.lo,zgy,↓qc,↓qv,↓reduceIte,Nat.reduceEqDiff,reduceCtorEq]
theorem qal3 (l:List Evt) (hn:n=l.length) (hb:n<2^58) (hk:qc4 l) :
  ∃l':List Evt,l'.Perm l∧l'.Pairwise leE∧(evL T).call qa9 [.sl 0 g 0 n cl,(ii n),(.fn (.func qd) [] [])] [.row 6 ((l).map Evt.r) g]=some (.tup [],[.row 6 ((l').map Evt.r) g]):=by
 obtain⟨⟨y,e,σ⟩,k1,a,k2,k3,k4,k5,k6,k7,k8,Dn,Rs,k9,k10,k11,k12,k13⟩:=qaj1 g cl n l hn hb hk
 simp only at k1 k2 k3 k4 k5 k6 k7 k8 k9
 subst k2;subst k9
 have hl:=k11.length_eq
 rw[List.length_append]at hl
 obtain⟨R',p1,q1,r1⟩:=q5r g cl n Dn Rs [] (by simp;omega) (by omega) (by rw[List.append_nil];exact hk.perm k11) a n k10 (by omega)
 simp only[zgn]at r1
 obtain⟨⟨y',e',σ'⟩,l1,l2,l3,l',l4,l5,l6⟩:=qajq g cl n l (Dn++R') hn hb hk ((List.Perm.append_left Dn p1).trans k11) (k13 _ (.last (by rw[p1.length_eq];omega) q1))
 simp only at l1 l2 l3 l4
 subst l2;subst l4
 refine⟨l',l5,l6,?_⟩
 rw[qe qnb qm0]
 simp only[qdz,k1,k3,k4,k5,k6,k7,k8,r1,l1,l3,qq,Ev.ev1,qh,Ev.SObj.lo,zgy,↓qc,↓qv,↓reduceIte,Nat.reduceAdd,Nat.reduceEqDiff,reduceCtorEq]
theorem qaci (l:List Evt) (hn:n=l.length) (hb:n<2^58) (hk:qc4 l) :
  ∃l':List Evt,l'.Perm l∧l'.Pairwise leE∧(evL T).call qad [.sl 0 g 0 n cl,(.fn (.func qd) [] [])] [.row 6 ((l).map Evt.r) g]=some (.tup [],[.row 6 ((l').map Evt.r) g]):=by
 obtain⟨l',h1,h2,h3⟩:=qal3 g cl n l hn hb hk
 refine⟨l',h1,h2,?_⟩
 rw[qe qit qin]
 simp only[qbl,h3,qq,Ev.ev1,qh,Ev.SObj.lo,zgy,↓qc,↓reduceIte,Nat.reduceAdd,Nat.reduceEqDiff,reduceCtorEq]
end
open Go.Ev
set_option maxRecDepth 10000
def sortL (l:List Evt):List Evt:=l.mergeSort (fun a b=>decide (qx5 a b≤0))
def q3p (l:List Evt):Prop:=l.Pairwise (fun a b=>¬qx5 a b=0)
theorem qdd (l:List Evt):(sortL l).Perm l:=List.mergeSort_perm _ _
theorem qhm (l:List Evt):(sortL l).Pairwise leE:=by
 have:=List.pairwise_mergeSort (le:=fun a b=>decide (qx5 a b≤0)) (fun a b c h1 h2=>by simp only[decide_eq_true_eq]at h1 h2 ⊢;exact qox a b c h1 h2) (fun a b=>by
  have:=qw5 a b
  by_cases h:qx5 a b≤0
  ·simp[h]
  ·have:qx5 b a≤0:=by omega
   simp[this]) l
 exact this.imp (fun h=>of_decide_eq_true h)
theorem q3p.eq {l:List Evt} (h:q3p l) {a b:Evt} (ha:a∈l) (hb:b∈l) (hc:qx5 a b=0):a=b:=by
 obtain⟨i,hi⟩:=List.mem_iff_getElem?.1 ha
 obtain⟨j,hj⟩:=List.mem_iff_getElem?.1 hb
 obtain⟨hi',rfl⟩:=zei.1 hi
 obtain⟨hj',rfl⟩:=zei.1 hj
 rw[q3p,List.pairwise_iff_getElem]at h
 rcases Nat.lt_trichotomy i j with c|c|c
 ·exact absurd hc (h i j hi' hj' c)
 ·subst c;rfl
 ·exact absurd (by rw[qw5];omega) (h j i hj' hi' c)
theorem qtn {l l':List Evt} (hd:q3p l) (hp:l'.Perm l) (hs:l'.Pairwise leE):l'=sortL l:=by
 refine List.Perm.eq_of_pairwise (le:=leE) (fun a b ha hb h1 h2 => ?_) hs (qhm l) (hp.trans (qdd l).symm)
 refine hd.eq (hp.mem_iff.1 ha) ((qdd l).mem_iff.1 hb) ?_
 have:=qw5 a b
 unfold leE at h1 h2;omega
theorem q3p.perm {l l':List Evt} (h:q3p l) (p:l'.Perm l):q3p l':=(p.pairwise_iff (fun {x y} hxy hyx=>hxy (by rw[qw5];omega))).2 h
theorem qwu (l:List Evt) (c:Bool) (h:l.length≤1000000):(evL T).call qax [(.fsl ((l).map Evt.r) c)] []=some (.sl 0 0 0 l.length false,[.row 6 (l.map Evt.r) 0]):=by
 have h':l.length*64≤140737488355328:=by omega
 rw[q35 qlm]
 simp only[qts,qq,qow,h',Ev.ev1,zgy,↓reduceIte,Nat.reduceLT,Nat.reducePow]
theorem q1d (l:List Evt) (c:Bool) (h:l.length≤1000000) (hk:qc4 l) : ∃l':List Evt,l'.Perm l∧l'.Pairwise leE∧qac (evL T) qds [(.fsl ((l).map Evt.r) c)]=some (.fsl ((l').map Evt.r) false):=by
 have hcl:=qwu l c h
 obtain⟨l',h1,h2,h3⟩:=qaci 0 false l.length l rfl (by omega) hk
 refine⟨l',h1,h2,?_⟩
 have hlen:=h1.length_eq
 rw[qac,qe q0d qyc]
 rw[←hlen]at hcl h3
 simp only[qma,hcl,h3,qq,Ev.ev1,q1x,qh,zgy,↓qc,↓reduceIte,Nat.reduceEqDiff,Nat.reduceLT,reduceCtorEq]
theorem qng (l:List Evt) (c:Bool) (h:l.length≤1000000) (hk:qc4 l) (hd:q3p l):qac (evL T) qds [(.fsl ((l).map Evt.r) c)]=some (.fsl ((sortL l).map Evt.r) false):=by
 obtain⟨l',h1,h2,h3⟩:=q1d l c h hk
 rw[←qtn hd h1 h2];exact h3
open Go.Ev
set_option maxRecDepth 10000
section
variable (l:List Evt) (c:Bool)
end
open Go.Ev
set_option maxRecDepth 10000
def qaia:Evt:=⟨0,[],0,0,0,0⟩
def q3g (l:List Evt) (b:Int):List Evt×Evt×Bool:=match l with
 | []=>([],qaia,false)
 |x::r=>if x.time<b then (r,x,true)else (x::r,qaia,false)
theorem q8g (l:List Evt) (c:Bool) (b:Int) (hl:l.length≤1000000) : ∃c':Bool,qac (evL T) qj5 [(.fsl ((l).map Evt.r) c),(ii b)]=some (.tup [(.fsl (((q3g l b).1).map Evt.r) c'),(.agg [(ii ((q3g l b).2.1.time)),(.fsl (((q3g l b).2.1.key).map qa0) false),(ii ((q3g l b).2.1.lp)),(ii ((q3g l b).2.1.kind)),(ii ((q3g l b).2.1.proc)),(ii ((q3g l b).2.1.arg))]),(bb ((q3g l b).2.2))]):=by
 rw[qac,qe q68 q4f]
 cases l with
 |nil=>
  refine⟨c,?_⟩
  simp only[ql6,q3g,qaia,List.map_nil,Int.lt_irrefl,Ev.ev1,Ev.stP,qb,Ev.AV.cells,Ev.AV.plain,qh,ne_eq,zgy,↓qc,↓reduceIte,Nat.reduceAdd,Nat.reduceEqDiff,reduceCtorEq]
  try rfl
 |cons x r=>
  have hcl:=qwu r c (by simp at hl;omega)
  have h1:(1:Int)≤((r.length+1:Nat):Int):=by omega
  have htk:(r.map Evt.r).take r.length=r.map Evt.r:=ztl (by simp)
  obtain⟨xt,xk,xl,xi,xp,xa⟩:=x
  have h0:((r.length+1:Nat):Int)>0:=by omega
  by_cases h:xt<b
  ·refine⟨false,?_⟩
   simp only[ql6,q3g,zgr,List.map_cons,Evt.r,h0,h1,h,hcl,htk,Int.le_refl,Nat.add_sub_cancel,imp_self,qm,qq,qow,Ev.ev1,Ev.stP,q1x,qb,Ev.AV.cells,Ev.AV.plain,qh,ne_eq,zgy,↓qc,↓reduceIte,Nat.reduceAdd,Nat.reduceEqDiff,Nat.reduceLT,Int.reduceLE,Int.reduceToNat,reduceCtorEq]
   try rfl
  ·refine⟨c,?_⟩
   simp only[ql6,q3g,qaia,List.map_cons,Evt.r,h0,h,qm,qq,Ev.ev1,Ev.stP,qb,Ev.AV.cells,Ev.AV.plain,qh,ne_eq,zgy,↓qc,↓reduceIte,Nat.reduceAdd,Nat.reduceEqDiff,Int.reduceLE,Int.reduceToNat,reduceCtorEq]
   try rfl
open Go.Ev
set_option maxRecDepth 10000
theorem qvm (x y:Evt) (hx:x.key.length≤9223372036854775807) (hy:y.key.length≤9223372036854775807) :
  (evL T).call qd [(.agg [(ii x.time),(.fsl ((x.key).map qa0) false),(ii x.lp),(ii x.kind),(ii x.proc),(ii x.arg)]),(.agg [(ii y.time),(.fsl ((y.key).map qa0) false),(ii y.lp),(ii y.kind),(ii y.proc),(ii y.arg)])] []=some ((ii (qx5 x y)),[]):=by
 obtain⟨xt,xk,xl,xi,xp,xa⟩:=x
 obtain⟨yt,yk,yl,yi,yp,ya⟩:=y
 have hc:=qni xt yt
 have hk:=qnd xk yk false false hx hy
 have hf:=qt9 (qv6 xt yt) (qoa xk yk) true
 simp only[List.map_cons,List.map_nil,qa0]at hf
 rw[qe qll qko]
 simp only[qgb,show ∀v:List AV,List.replicate 2 v=[v,v] from fun _=>rfl,hc,hk,hf,qx5,qm,Ev.ev1,qb,Ev.AV.cells,Ev.AV.uc,Ev.AV.plain,qh,ne_eq,zgy,↓qc,↓reduceIte,Nat.reduceAdd,Nat.reduceEqDiff,Nat.reduceMul,Nat.reduceLT,Nat.reduceLeDiff,Nat.reducePow,reduceCtorEq]
section
variable (l:List Evt) (c:Bool) (x:Evt)
def At (l:List Evt) (x:Evt) (k:Nat):Prop:=k≤l.length∧(∀u,0<k→l[k-1]? = some u→qx5 u x<0)∧(∀v,l[k]? = some v→0≤qx5 v x)
theorem bs_L (hl:l.length≤1000000) (hk:qc4 l) (kx:x.key.length≤9223372036854775807) :
  ∃y,itB (exec (evL T) itL none qr) (qai [0,2,4,8,9,10] true 0) ⟨[(0,(.fsl ((l).map Evt.r) c)),(2,(.fn (.func qd) [] [])),(4,(.fptr [(ii x.time),(.fsl ((x.key).map qa0) false),(ii x.lp),(ii x.kind),(ii x.proc),(ii x.arg)])),(8,(ii l.length)),(9,(ii 0)),(10,(ii l.length))],[]⟩ []=some y ∧
   ∃k:Nat,y.1 = .exit 0∧y.2.1.marks=[]∧y.2.2=[]∧Ev.look y.2.1.vars 0=some (.fsl ((l).map Evt.r) c)∧Ev.look y.2.1.vars 2=some (.fn (.func qd) [] [])∧Ev.look y.2.1.vars 4=some (.fptr [(ii x.time),(.fsl ((x.key).map qa0) false),(ii x.lp),(ii x.kind),(ii x.proc),(ii x.arg)])∧Ev.look y.2.1.vars 8=some (ii l.length)∧Ev.look y.2.1.vars 9=some (ii k)∧At l x k:=by
 have key:=qku (f:=exec (evL T) itL none qr) (s:=qai [0,2,4,8,9,10] true 0) (τ:=Nat×Nat) (fun a=>⟨[(0,(.fsl ((l).map Evt.r) c)),(2,(.fn (.func qd) [] [])),(4,(.fptr [(ii x.time),(.fsl ((x.key).map qa0) false),(ii x.lp),(ii x.kind),(ii x.proc),(ii x.arg)])),(8,(ii l.length)),(9,(ii a.1)),(10,(ii a.2))],[]⟩) (fun _=>[]) (fun a=>a.2-a.1)
  (fun a=>a.1≤a.2∧a.2≤l.length∧(∀u,0<a.1→l[a.1-1]? = some u→qx5 u x<0)∧(∀v,l[a.2]? = some v→0≤qx5 v x))
  (fun y => ∃k:Nat,y.1 = .exit 0∧y.2.1.marks=[]∧y.2.2=[]∧Ev.look y.2.1.vars 0=some (.fsl ((l).map Evt.r) c)∧Ev.look y.2.1.vars 2=some (.fn (.func qd) [] [])∧Ev.look y.2.1.vars 4=some (.fptr [(ii x.time),(.fsl ((x.key).map qa0) false),(ii x.lp),(ii x.kind),(ii x.proc),(ii x.arg)])∧Ev.look y.2.1.vars 8=some (ii l.length)∧Ev.look y.2.1.vars 9=some (ii k)∧At l x k)
  ?_ (0,l.length) ⟨Nat.zero_le _,Nat.le_refl _,fun u h=>by simp only at h;omega,fun v hv=>by simp at hv⟩
 ·exact key
 rintro⟨i,j⟩ ⟨h1,h2,h3,h4⟩
 simp only at h1 h2 h3 h4⊢
 by_cases hij:i<j
 case neg=>
  have c1:¬(i:Int)<(j:Int):=by omega
  right
  simp only[qr,c1,Ev.ev1,zgy,↓qc,↓reduceIte,Nat.reduceEqDiff,reduceCtorEq]
  obtain rfl:i=j:=by omega
  exact⟨_,rfl,i,rfl,rfl,rfl,rfl,rfl,rfl,rfl,rfl,by omega,h3,h4⟩
 obtain⟨h,hh⟩ : ∃h,h=(i+j) / 2:=⟨_,rfl⟩
 have c1:(i:Int)<(j:Int):=by omega
 obtain⟨y,hy⟩ : ∃y,l[h]? = some y:=⟨_,zgE (by omega)⟩
 have w1:IntKind.i64.wrap ((i:Int)+(j:Int))=((i+j:Nat):Int):=qoy (by omega)
 have w2:IntKind.u64.wrap ((i+j:Nat):Int)=((i+j:Nat):Int):=qy6 (by omega)
 have w3:=q29 (i+j) h hh
 have w4:IntKind.i64.wrap (h:Int)=(h:Int):=qy5 (by omega)
 have w5:IntKind.i64.wrap ((h:Int)+1)=((h+1:Nat):Int):=qpo (by omega)
 have ky:y.key.length≤9223372036854775807:=hk y (zmg hy)
 have hc:=qvm y x ky kx
 left
 by_cases hlt:qx5 y x<0
 ·refine⟨(h+1,j),?_,⟨by simp only;omega,h2,fun u _ hu => ?_,h4⟩,by simp only;omega⟩
  ·clear h3 h4
   obtain⟨xt,xk,xl,xi,xp,xa⟩:=x
   obtain⟨yt,yk,yl,yi,yp,ya⟩:=y
   simp only at hc
   simp only[qr,zgs,zgr,zgq,zgt,hy,c1,w1,w2,w3,w4,w5,hc,hlt,Evt.r,qq,qm,Ev.ev1,qb,zgy,↓qc,↓reduceIte,Nat.reduceAdd,Nat.reduceEqDiff,reduceCtorEq]
  ·simp only[Nat.add_sub_cancel]at hu
   rw[hy]at hu;cases hu;exact hlt
 ·refine⟨(i,h),?_,⟨by simp only;omega,by simp only;omega,h3,fun v hv=>by simp only at hv;rw[hy]at hv;cases hv;omega⟩,by simp only;omega⟩
  clear h3 h4
  obtain⟨xt,xk,xl,xi,xp,xa⟩:=x
  obtain⟨yt,yk,yl,yi,yp,ya⟩:=y
  simp only at hc
  simp only[qr,zgs,zgr,zgq,zgt,hy,c1,w1,w2,w3,w4,hc,hlt,Evt.r,qq,qm,Ev.ev1,qb,zgy,↓qc,↓reduceIte,Nat.reduceAdd,Nat.reduceEqDiff,reduceCtorEq]
theorem bs_ev (hl:l.length≤1000000) (hk:qc4 l) (kx:x.key.length≤9223372036854775807) : ∃(k:Nat) (b:Bool),At l x k ∧
  qac (evL T) qo [(.fsl ((l).map Evt.r) c),(.agg [(ii x.time),(.fsl ((x.key).map qa0) false),(ii x.lp),(ii x.kind),(ii x.proc),(ii x.arg)]),(.fn (.func qd) [] [])]=some (.tup [(ii k),(bb b)]):=by
 obtain⟨⟨y,e,σ⟩,h1,k,h2,h3,h4,h5,h6,h7,h8,h9,hA⟩:=bs_L l c x hl hk kx
 simp only at h2 h3 h4 h5 h6 h7 h8 h9
 subst h2;subst h4
 refine⟨k,match l[k]? with|some v=>decide (qx5 v x=0)|none=>false,hA,?_⟩
 rw[qac,qe qf0 qft]
 by_cases hkn:k<l.length
 ·obtain⟨v,hv⟩ : ∃v,l[k]? = some v:=⟨_,zgE hkn⟩
  have c1:(k:Int)<(l.length:Int):=by omega
  have hc:=qvm v x (hk v (zmg hv)) kx
  clear hA
  obtain⟨xt,xk,xl,xi,xp,xa⟩:=x
  obtain⟨yt,yk,yl,yi,yp,ya⟩:=v
  simp only at hc h1 h7
  simp only[qae,zgs,zgr,zgq,zgt,h1,h3,h5,h6,h7,h8,h9,hv,c1,hc,Evt.r,qq,qm,Ev.ev1,qb,Ev.AV.cells,Ev.AV.plain,qh,ne_eq,zgy,↓qc,↓qv,↓reduceIte,Nat.reduceAdd,Nat.reduceEqDiff,reduceCtorEq]
 ·have c1:¬(k:Int)<(l.length:Int):=by omega
  have hv:l[k]? = none:=List.getElem?_eq_none (by omega)
  clear hA
  obtain⟨xt,xk,xl,xi,xp,xa⟩:=x
  simp only at h1 h7
  simp only[qae,h1,h3,h8,h9,hv,c1,qq,qm,Ev.ev1,Ev.AV.cells,Ev.AV.plain,qh,ne_eq,zgy,↓qc,↓qv,↓reduceIte,Nat.reduceAdd,Nat.reduceEqDiff,reduceCtorEq]
theorem q3v (hl:l.length≤1000000) (hk:qc4 l) (kx:x.key.length≤9223372036854775807) : ∃k:Nat,At l x k ∧
  qac (evL T) qg3 [(.fsl ((l).map Evt.r) c),(.agg [(ii x.time),(.fsl ((x.key).map qa0) false),(ii x.lp),(ii x.kind),(ii x.proc),(ii x.arg)])]=some (.fsl ((l.take k++x::l.drop k).map Evt.r) false):=by
 obtain⟨k,b,hA,hb⟩:=bs_ev l c x hl hk kx
 refine⟨k,hA,?_⟩
 have hcl:=qwu l c hl
 have hkl:k≤l.length:=hA.1
 have ok1:=qow [x]
 have ok2:=qow l
 have hb2:(l.length+1)*64≤2^47:=by omega
 have hins:(evL T).call qa5 [.sl 0 0 0 l.length false,(ii k),.fsl [x.r] true] [.row 6 (l.map Evt.r) 0]=some (.sl 0 2 0 (l.length+1) false,[.row 6 ((l.take k++x::l.drop k).map Evt.r) 2]):=by
  rw[evL_ins qkl qkx]
  simp only[insF,zgd,zgr]
  rw[if_pos ⟨trivial,trivial,trivial,by omega,by omega,by simp,by omega,hkl,ok1,by rw[ztl (by simp)];exact ok2,hb2⟩]
  rw[List.map_append,List.map_cons,List.map_take,List.map_drop,ztl (l:=l.map Evt.r) (i:=l.length) (by simp)]
  rfl
 have htk:((l.take k++x::l.drop k).map Evt.r).take (l.length+1)=(l.take k++x::l.drop k).map Evt.r:=ztl (by simp;omega)
 have hlen:l.length+1≤(l.take k++x::l.drop k).length:=by simp;omega
 rw[qac,qe q3m q1j]
 clear hA
 generalize l.take k++x::l.drop k=R at *
 obtain⟨xt,xk,xl,xi,xp,xa⟩:=x
 simp only[Evt.r]at hins
 simp only at hb
 simp only[qn2,hb,hcl,hins,htk,hlen,qq,qm,Ev.ev1,q1x,qb,Ev.AV.cells,Ev.AV.plain,qh,ne_eq,zgy,↓qc,↓reduceIte,Nat.reduceAdd,Nat.reduceEqDiff,Nat.reduceMul,Nat.reduceLT,Nat.reduceLeDiff,Nat.reducePow,reduceCtorEq]
end
end Go.Proofs.YtpgdfkciinankaaGreat.K
