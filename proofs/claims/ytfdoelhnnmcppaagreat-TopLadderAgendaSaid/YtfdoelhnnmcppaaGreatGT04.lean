/- For every input the statement of this claim returns true: texts of its proof, joined (part 5). -/
import Derived.Lib.Overlaps
import Derived.Test.YtfdoelhnnmcppaaGreatET3
set_option linter.unusedSectionVars false
set_option linter.unusedSimpArgs false
set_option linter.unusedVariables false
open And renaming intro → wa
open List renaming length_take → wb, replicate → wd, take_append_of_le_length → we
open Option renaming bind_some → wc
open Nat renaming le_refl → wf, mul_le_mul_right → wg
namespace Go.Ev
set_option linter.defProp false in
/-- What execution goes by,in one. -/
def ev1:=wa (wa (wa (wa (wa (wa (wa (wa (@Go.Ev.item_K) (@Go.Ev.item_op)) (wa (@Go.Ev.item_P) (@Go.Ev.item_A))) (wa (wa (@Go.Ev.item_I) (@Go.Ev.item_R)) (wa (@Go.Ev.item_F) (@Go.Ev.item_H)))) (wa (wa (wa (@Go.Ev.qad1) (@Go.Ev.qabs)) (wa (@Go.Ev.eqBs_nil) (@Go.Ev.qam6))) (wa (wa (@Go.Ev.eqB_int) (@Go.Ev.eqB_bool)) (wa (@Go.Ev.eqB_fsl) (@Go.Ev.eqB_sl))))) (wa (wa (wa (wa (@Go.Ev.eqB_agg) (@Go.Ev.eqB_ptr)) (wa (@Go.Ev.item_v) (@Go.Ev.bin_add))) (wa (wa (@Go.Ev.bin_sub) (@Go.Ev.bin_mul)) (wa (@Go.Ev.bin_quo) (@Go.Ev.bin_rem)))) (wa (wa (wa (@Go.Ev.qam2) (@Go.Ev.bin_neq)) (wa (@Go.Ev.bin_lss) (@Go.Ev.bin_leq))) (wa (wa (@Go.Ev.qalw) (@Go.Ev.bin_geq)) (wa (@Go.Ev.lo_v) (@Go.Ev.lo_agg)))))) (wa (wa (wa (wa (wa (@Go.Ev.lo_tup) (@Go.Ev.qaik)) (wa (@Go.Ev.lo_fptr) (@Go.Ev.qajm))) (wa (wa (@Go.Ev.lo_ptr) (@Go.Ev.lo_fn)) (wa (@Go.Ev.lo_yld) (@Go.Ev.lo_mp)))) (wa (wa (wa (@Go.Ev.q43) (@Go.Ev.qzp)) (wa (@Go.Ev.qr5) (@Go.Ev.qli))) (wa (wa (@Go.Ev.qajy) (@Go.Ev.qahf)) (wa (@Go.Ev.qah2) (@Go.Ev.frz_agg))))) (wa (wa (wa (wa (@Go.Ev.frz_tup) (@Go.Ev.qalv)) (wa (@Go.Ev.q7e) (@Go.Ev.q62))) (wa (wa (@Go.Ev.qwl) (@Go.Ev.q92)) (wa (@Go.Ev.qlq) (@Go.Ev.q5d)))) (wa (wa (wa (@List.length_set.{0}) (@List.replicate_one.{0})) (wa (@List.replicate_zero.{0}) (@List.length_replicate.{0}))) (wa (wa (@List.take_replicate.{0}) (@Nat.min_self)) (wa (@List.take_length.{0}) (wa (@List.length_map.{0,0}) (@List.map_replicate.{0,0})))))))) (wa (wa (wa (wa (wa (wa (@List.length_cons.{0}) (@List.length_nil.{0})) (wa (@List.length_append.{0}) (@List.getElem?_cons_zero.{0}))) (wa (wa (@List.getElem?_cons_succ.{0}) (@List.getElem?_nil.{0})) (wa (@List.take_succ_cons.{0}) (@List.take_zero.{0})))) (wa (wa (wa (@List.take_nil.{0}) (@List.drop_succ_cons.{0})) (wa (@List.drop_zero.{0}) (@List.drop_nil.{0}))) (wa (wa (@List.cons_append.{0}) (@List.nil_append.{0})) (wa (@List.append_nil.{0}) (@List.set_cons_zero.{0}))))) (wa (wa (wa (wa (@List.set_cons_succ.{0}) (@List.set_nil.{0})) (wa (@List.head?_cons.{0}) (@Int.cast_ofNat_Int))) (wa (wa (@decide_true) (@decide_false)) (wa (@Bool.and_self) (@Bool.and_true)))) (wa (wa (wa (@Bool.true_and) (@Bool.true_or)) (wa (@Bool.false_or) (@Bool.or_true))) (wa (wa (@Bool.or_false) (@Bool.not_true)) (wa (@Bool.not_false) (wa (@Bool.false_eq_true) (@Bool.true_eq_false))))))) (wa (wa (wa (wa (wa (@and_self) (@and_true)) (wa (@true_and) (@not_false_eq_true))) (wa (wa (@not_true_eq_false) (@List.cons_ne_nil.{0})) (wa (@Nat.zero_add) (@Nat.add_zero)))) (wa (wa (wa (@Nat.lt_add_one) (@Nat.le_refl)) (wa (@Option.isSome_some.{0}) (@Option.isSome_none.{0}))) (wa (wa (@beq_self_eq_true.{0}) (@bne_self_eq_false.{0})) (wa (@Bool.false_and) (@Bool.and_false))))) (wa (wa (wa (wa (@false_and) (@and_false)) (wa (@false_or) (@or_false))) (wa (wa (@true_or) (@or_true)) (wa (@Go.Ev.iceE.eq_1) (@Go.Ev.qe2.eq_1)))) (wa (wa (wa (@Go.Ev.nilB.eq_1) (@Go.Ev.qxf.eq_1)) (wa (@Go.Ev.qxb.eq_1) (@Go.Ev.qw4.eq_1))) (wa (wa (@Go.Ev.exec.eq_1) (@Go.Ev.exec.eq_2)) (wa (@Go.Ev.exec.eq_3) (wa (@Go.Ev.exec.eq_4) (@Go.Ev.exec.eq_5))))))))) (wa (wa (wa (wa (wa (wa (wa (@Go.Ev.exec.eq_6) (@Go.Ev.exec.eq_7)) (wa (@Go.Ev.exec.eq_8) (@Go.Ev.exec.eq_9))) (wa (wa (@Go.Ev.exec.eq_10) (@Go.Ev.qah.eq_1)) (wa (@Go.Ev.qah.eq_2) (@Go.Ev.qgy.eq_1)))) (wa (wa (wa (@Go.Ev.qajw.eq_1) (@Go.Ev.qada.eq_1)) (wa (@Go.Ev.qada.eq_2) (@Go.Ev.q5f.eq_1))) (wa (wa (@Go.Ev.q5f.eq_2) (@Go.Ev.AV.shift.eq_1)) (wa (@Go.Ev.AV.shift.eq_2) (@Go.Ev.AV.shift.eq_3))))) (wa (wa (wa (wa (@Go.Ev.AV.shift.eq_4) (@Go.Ev.AV.shift.eq_5)) (wa (@Go.Ev.AV.shift.eq_6) (@Go.Ev.AV.shift.eq_7))) (wa (wa (@Go.Ev.AV.shift.eq_8) (@Go.Ev.AV.shift.eq_9)) (wa (@Go.Ev.AV.shift.eq_10) (@Go.Ev.qdy.eq_1)))) (wa (wa (wa (@Go.Ev.qdy.eq_2) (@Go.Ev.qdy.eq_3)) (wa (@Go.Ev.qdy.eq_4) (@Go.Ev.qdy.eq_5))) (wa (wa (@Go.Ev.qdy.eq_6) (@Go.Ev.qdy.eq_7)) (wa (@Go.Ev.qdy.eq_8) (@Go.Ev.qdy.eq_9)))))) (wa (wa (wa (wa (wa (@Go.Ev.qdy.eq_10) (@Go.Ev.qdy.eq_11)) (wa (@Go.Ev.qdy.eq_12) (@Go.Ev.qdy.eq_13))) (wa (wa (@Go.Ev.qdy.eq_14) (@Go.Ev.qdy.eq_15)) (wa (@Go.Ev.qdy.eq_16) (@Go.Ev.qdy.eq_17)))) (wa (wa (wa (@Go.Ev.qdy.eq_18) (@Go.Ev.qdy.eq_19)) (wa (@Go.Ev.qdy.eq_20) (@Go.Ev.qdy.eq_21))) (wa (wa (@Go.Ev.qdy.eq_22) (@Go.Ev.qdy.eq_23)) (wa (@Go.Ev.qdy.eq_24) (@Go.Ev.qdy.eq_25))))) (wa (wa (wa (wa (@Go.Ev.qdy.eq_26) (@Go.Ev.qdy.eq_27)) (wa (@Go.Ev.qdy.eq_28) (@Go.Ev.qdy.eq_29))) (wa (wa (@Go.Ev.qdy.eq_30) (@Go.Ev.qdy.eq_31)) (wa (@Go.Ev.qdy.eq_32) (@Go.Ev.qdy.eq_33)))) (wa (wa (wa (@Go.Ev.qdy.eq_34) (@Go.Ev.qdy.eq_35)) (wa (@Go.Ev.qdy.eq_36) (@Go.Ev.qdy.eq_37))) (wa (wa (@Go.Ev.qdy.eq_38) (@Go.Ev.qdy.eq_39)) (wa (@Go.Ev.qdy.eq_40) (wa (@Go.Ev.qdy.eq_41) (@Go.Ev.qdy.eq_42)))))))) (wa (wa (wa (wa (wa (wa (@Go.Ev.qdy.eq_43) (@Go.Ev.qdy.eq_44)) (wa (@Go.Ev.qdy.eq_45) (@Go.Ev.qdy.eq_46))) (wa (wa (@Go.Ev.qdy.eq_47) (@Go.Ev.qdy.eq_48)) (wa (@Go.Ev.qdy.eq_49) (@Go.Ev.qdy.eq_50)))) (wa (wa (wa (@Go.Ev.qdy.eq_51) (@Go.Ev.qdy.eq_52)) (wa (@Go.Ev.qdy.eq_53) (@Go.Ev.qdy.eq_54))) (wa (wa (@Go.Ev.qdy.eq_55) (@Go.Ev.qdy.eq_56)) (wa (@Go.Ev.qdy.eq_57) (@Go.Ev.qdy.eq_58))))) (wa (wa (wa (wa (@Go.Ev.qdy.eq_59) (@Go.Ev.qdy.eq_60)) (wa (@Go.Ev.qai8.eq_1) (@Go.Ev.qai8.eq_2))) (wa (wa (@Go.Ev.evs.eq_1) (@Go.Ev.evs.eq_2)) (wa (@Go.Ev.Opnd.ev.eq_1) (@Go.Ev.Opnd.ev.eq_2)))) (wa (wa (wa (@Go.Ev.Env.get.eq_1) (@Go.Ev.Env.set.eq_1)) (wa (@Go.Ev.Env.set.eq_2) (@Go.Ev.Env.unset.eq_1))) (wa (wa (@Go.Ev.look.eq_1) (@Go.Ev.look.eq_2)) (wa (@Go.Ev.qxi.eq_1) (wa (@Go.Ev.qxi.eq_2) (@Go.Ev.qpi.eq_1))))))) (wa (wa (wa (wa (wa (@Go.Ev.qpi.eq_2) (@Go.Ev.qyb.eq_1)) (wa (@Go.Ev.q6u.eq_1) (@Go.Ev.q6u.eq_2))) (wa (wa (@Go.Ev.q37.eq_1) (@Go.Ev.q37.eq_2)) (wa (@Go.Ev.qfk.eq_1) (@Go.Ev.qfk.eq_2)))) (wa (wa (wa (@Go.Ev.qrb.eq_1) (@Go.Ev.qrb.eq_2)) (wa (@Go.Ev.q5j.eq_1) (@Go.Ev.q5j.eq_2))) (wa (wa (@Go.Ev.kill.eq_1) (@Go.Ev.kill.eq_2)) (wa (@Go.Ev.qx6.eq_1) (@Go.Ev.qao.eq_1))))) (wa (wa (wa (wa (@Go.Ev.keep.eq_1) (@Go.Ev.keep.eq_2)) (wa (@Go.Ev.qy7.eq_1) (@Go.Ev.qy7.eq_2))) (wa (wa (@Go.Ev.q4r.eq_1) (@Go.Ev.q4r.eq_2)) (wa (@Go.Ev.qer.eq_1) (@Go.Ev.qer.eq_2)))) (wa (wa (wa (@Go.Ev.qajc.eq_1) (@Go.Ev.qajc.eq_2)) (wa (@Go.Ev.qaln.eq_1) (@Go.Ev.qaln.eq_2))) (wa (wa (@Go.Ev.gotL.eq_1) (@Go.Ev.gotL.eq_2)) (wa (@Go.Ev.q0c.eq_1) (wa (@Go.Ev.q0c.eq_2) (@Go.Ev.it1.eq_1)))))))))
end Go.Ev
namespace Go.Ev
open Go.RowKit (Below)
variable {P:Program} {Γ Γ':Ctx} {w w':World} {σ σ':qf} {e e':Env} {a a':Act} {av:AV} {N:Nat}
theorem q5v {tS tR el : TypeId} (ht : P.underlying tS = some (.slice el)) (size : Nat) (hz : ∀ w, (Go.sizeOf el).run P w = .ok size w)
    (a b : Addr) (la ca lb cb : Nat) (hne : a.block ≠ b.block) {off : Nat} {va : Value} (hcell : w.cell? ⟨a.block, off, none⟩ = some va) {arr : Array Value} {et : TypeId} (hb : w.heap[b.block]? = some (.cells arr et (0, 0))) :
    (Extern.SlicesOverlaps.overlaps #[tS, tS] #[tR] #[.slice (some a) la ca, .slice (some b) lb cb]).run P w = .ok (.bool false) w := by
  have hnb : (a.block != b.block) = true := by simpa using hne
  have hnb' : (a.block == b.block) = false := by simpa using hne
  change Sem.run P (α := Value) (do
    let some t := (#[tS, tS] : Array TypeId)[0]? | stuck "slices.overlaps: no parameter types"
    let .slice elem ← underlying t | stuck "slices.overlaps: slice type expected"
    let size ← sizeOf elem
    match (some a : Option Addr), (some b : Option Addr) with
    | some a, some b =>
      if la = 0 ∨ lb = 0 ∨ size = 0 then pure (Value.bool false)
      else if a.block != b.block && (← frozen a) && (← frozen b) then unsupported .addressObserved
      else do
        if a.block != b.block then do
          noView a; noView b
          if ← mayBeOne a b then return Value.bool ((← choose (.extern "sameAddr.stringBytes" 2)) == 1)
        pure (Value.bool (a.block == b.block && a.off < b.off + lb * size && b.off < a.off + la * size))
    | _, _ => pure (Value.bool false)) w = _
  have hfb : ∀ off, w.frozen? ⟨b.block, off, none⟩ = false := fun off => by simp [World.frozen?, hb]
  have hfb' : w.frozen? b = false := by simp [World.frozen?, hb]
  have hsb : w.shape? b.block = some (et, arr.size) := by simp [World.shape?, hb]
  obtain ⟨tA, kA, hsa, hk⟩ : ∃ tA kA, w.shape? a.block = some (tA, kA + 1) ∧ 0 ≤ kA := by
    unfold World.cell? at hcell
    split at hcell
    · rename_i c _ _ hh
      simp only at hh
      have h1 : 0 < c.size := by
        rcases Nat.eq_zero_or_pos c.size with h0 | h0
        · have : c = #[] := Array.eq_empty_of_size_eq_zero h0
          subst this
          simp at hcell
        · exact h0
      exact ⟨_, c.size - 1, by simp only [World.shape?, hh]; rw [Nat.sub_add_cancel h1], Nat.zero_le _⟩
    · cases hcell
  by_cases h0 : la = 0 ∨ lb = 0 ∨ size = 0
  · simp [run_underlying ht, hz, h0]
  · cases hfa : w.frozen? a <;> cases hfe : w.frozen? ⟨a.block, kA + 1, none⟩ <;>
      simp [run_underlying ht, hz, h0, hnb, hnb', frozen, noView, viewAt, mayBeOne, stringish, shape, Sem.run, hsa, hsb, hfa, hfe, hfb, hfb']
theorem ok_bump {o g m sz:Nat} {E:List (List AV)} {Γ0:Ctx} {w0:World} {v:Value} (ho:o<σ.length) (h:Got P Γ0 w0 (.sl o g 0 m false) (σ.set o (.row sz E g)) v w) :
  Got P Γ0 w0 (.sl o (g+1) 0 m false) (σ.set o (.row sz E (g+1))) v w:=by
 obtain⟨Γ1,h1,s,x⟩:=h
 have hob:(σ.set o (.row sz E g))[o]? = some (.row sz E g):=by simp[ho]
 have hn:o<Γ1.n:=by rw[←s.len];simpa using ho
 have hO:=s.obj o _ hob
 simp only[OR]at hO
 obtain⟨k1,k2,k3,k4,k5,k6⟩:=hO
 have hg:(⟨g+1,(Γ1.loc o).b,(Γ1.loc o).sz,(Γ1.loc o).ct⟩:Loc)=Γ1.loc o∨(Γ1.loc o).g<g+1:=.inr (by omega)
 have hsame : ∀b,b<w.heap.size→(b=(Γ1.loc o).b∧(Γ1.loc o).ct≠0)∨w.heap[b]? = w.heap[b]?:=fun b _ => .inr rfl
 have hl:(Γ1.loc o).ct≠0→((Γ1.loc o).b=(Γ1.loc o).b∧(Γ1.loc o).ct≠0∨w.heap.size≤(Γ1.loc o).b)∧(Γ1.loc o).b<w.heap.size:=fun hc=>⟨.inl ⟨rfl,hc⟩,s.ownlt _ (s.blk o hn hc)⟩
 have ee:=Ext.upd (l:=⟨g+1,(Γ1.loc o).b,(Γ1.loc o).sz,(Γ1.loc o).ct⟩) s hn hg (wf _) hsame hl rfl rfl rfl
 have s2:=SR.upd (l:=⟨g+1,(Γ1.loc o).b,(Γ1.loc o).sz,(Γ1.loc o).ct⟩) s hn hg (wf _) hsame hl rfl rfl rfl (ob:=.row sz E (g+1)) (by
  simp only[OR,Ctx.upd_same]
  refine⟨trivial,k2,k3,k4,k5,?_⟩
  rcases k6 with k6|⟨arr,et,k7,k8,k9⟩
  ·exact .inl k6
  ·exact .inr ⟨arr,et,k7,k8,qi.mono ee _ _ _ (fun _=>rfl) k9⟩)
 rw[List.set_set]at s2
 refine⟨_,?_,s2,x.trans ee⟩
 simp only[VR]at h1⊢
 obtain⟨A,c,rfl,q1,_,q3,q4,q5⟩:=h1
 obtain⟨q6,q7⟩:=q5 k1
 rw[Ctx.upd_same]
 exact⟨A,c,rfl,q1,by simp,by simpa[Ctx.upd]using q3,wf _,fun _=>⟨q6,q7⟩⟩
theorem qajp {o g n cap sz:Nat} {c:Bool} {A:Option Addr} {es:List (List AV)} (s:SR P Γ σ w) (hv:VR Γ w (.sl o g 0 n c) (.slice A n cap)) (ho:σ[o]? = some (.row sz es g)) (hn:n≤es.length) (hroom:n+1≤cap) :
  ∃ Γ' y,y.length=sz∧SR P Γ' (σ.set o (.row sz (es.take n++[y]) (g+2))) w∧Ext Γ Γ' w w∧VR Γ' w (.sl o (g+2) 0 (n+1) false) (.slice A (n+1) cap):=by
 have hnn:o<Γ.n:=by rw[←s.len];exact(zei.1 ho).1
 have hO:=s.obj o _ ho
 simp only[OR]at hO
 obtain⟨k1,k2,k3,k4,k5,k6⟩:=hO
 simp only[VR]at hv
 obtain⟨A',c',hAv,q1,_,q3,q4,q5⟩:=hv
 simp only[Value.slice.injEq]at hAv
 obtain⟨rfl,_,rfl⟩:=hAv
 obtain⟨q6,q7⟩:=q5 k1
 have hct:(Γ.loc o).ct≠0:=by omega
 obtain⟨arr,et,k7,k8,k9⟩:=k6.resolve_left hct
 have hbd:n*sz+sz≤arr.size:=by rw[k8,←Nat.succ_mul];exact wg _ (by omega)
 have hg:(⟨g+2,(Γ.loc o).b,sz,(Γ.loc o).ct⟩:Loc)=Γ.loc o∨(Γ.loc o).g<g+2:=.inr (by omega)
 have hsame : ∀b,b<w.heap.size→(b=(Γ.loc o).b∧(Γ.loc o).ct≠0)∨w.heap[b]? = w.heap[b]?:=fun b _ => .inr rfl
 have hl:(Γ.loc o).ct≠0→((Γ.loc o).b=(Γ.loc o).b∧(Γ.loc o).ct≠0∨w.heap.size≤(Γ.loc o).b)∧(Γ.loc o).b<w.heap.size:=fun hc=>⟨.inl ⟨rfl,hc⟩,s.ownlt _ (s.blk o hnn hc)⟩
 have ee:=Ext.upd (l:=⟨g+2,(Γ.loc o).b,sz,(Γ.loc o).ct⟩) s hnn hg (wf _) hsame hl rfl rfl rfl
 have hyl:(((arr.toList.drop (n*sz)).take sz).map AV.v).length=sz:=by simp;omega
 refine⟨_,((arr.toList.drop (n*sz)).take sz).map AV.v,hyl,SR.upd (l:=⟨g+2,(Γ.loc o).b,sz,(Γ.loc o).ct⟩) s hnn hg (wf _) hsame hl rfl rfl rfl ?_,ee,?_⟩
 ·simp only[OR,Ctx.upd_same]
  refine⟨trivial,trivial,k3,by simp;omega,fun x hx => ?_,.inr ⟨arr,et,k7,k8,?_⟩⟩
  ·rcases List.mem_append.1 hx with hx|hx
   ·exact k5 x (List.mem_of_mem_take hx)
   ·rw[List.mem_singleton.1 hx];exact hyl
  ·rw[List.flatten_append,qii n k5,qi.append_iff]
   refine⟨qi.mono ee _ _ _ (fun _=>rfl) (k9.take _),?_⟩
   have hlen:(es.flatten.take (n*sz)).length=n*sz:=by
    rw[wb,qbo k5];exact Nat.min_eq_left (wg _ hn)
   rw[hlen,List.flatten_cons,List.flatten_nil,List.append_nil]
   refine qi.of_list (vs:=(arr.toList.drop (n*sz)).take sz) ?_ fun j v hj => ?_
   ·generalize (arr.toList.drop (n*sz)).take sz=l
    induction l with
    |nil=>simp[VRs]
    |cons b l ih=>simp only[List.map_cons,VRs,VR];exact⟨_,_,rfl,rfl,ih⟩
   ·rw[List.getElem?_take]at hj
    split at hj
    ·rw[List.getElem?_drop]at hj
     rw[←hj];simp[Nat.add_comm]
    ·cases hj
 ·simp only[VR,Ctx.upd_same]
  refine⟨A,cap,rfl,hroom,by simp,by simpa[Ctx.upd]using q3,wf _,fun _=>⟨q6,?_⟩⟩
  rcases q7 with q7|q7
  ·omega
  ·exact .inr (by rw[q7];simp)
theorem ok_grow {t tn ty el:TypeId} {sz bytes o g i n cap:Nat} {c:Bool} {kn kq:IntKind} {A:Option Addr} {es:List (List AV)} {z:List AV} (s:SR P Γ σ w) (hv:VR Γ w (.sl o g 0 n c) (.slice A n cap)) (ho:σ[o]? = some (.row sz es g)) (hn:n≤es.length)
  (hi:i≤n) (hcap:cap<n+1) (ht:P.underlying t=some (.slice el)) (htn:P.underlying tn=some (.int kn)) (hz:zT P el=some z) (hsz:szT P el=some sz) (hby:byT P el=some bytes) (hb0:0<bytes) (hs0:0<sz) (hfit:(n+1)*bytes≤2^47) :
  ∃v w' Γ',(Builtin.append_ #[t,tn] ty #[.slice A i cap,.int kq ((n+1-i:Nat):Int)]).run P w = .ok v w'∧VR Γ' w' (.sl o (g+2) 0 (n+1) false) v∧SR P Γ' (σ.set o (.row sz (es.take i++wd (n+1-i) z) (g+2))) w'∧Ext Γ Γ' w w' ∧
   VR Γ' w' (.fsl (es.take n) false) (.slice A n cap):=by
 have hos:o<σ.length:=(zei.1 ho).1
 have hnn:o<Γ.n:=by rw[←s.len];exact hos
 have hO:=s.obj o _ ho
 simp only[OR]at hO
 obtain⟨k1,k2,k3,k4,k5,k6⟩:=hO
 obtain⟨s1,v1⟩:=qv7 s hv ho (by omega)
 rw[List.drop_zero]at v1
 have x1:=Ext.drop Γ w o
 have hl1:((Γ.drop o).loc o)=⟨(Γ.loc o).g+1,0,(Γ.loc o).sz,0⟩:=by simp[Ctx.drop]
 obtain⟨inf,zv,hinf,hzv,hzs,rfl⟩:=qae1 hz
 obtain⟨inf',hinf',rfl⟩:=qoq hsz
 rw[hinf]at hinf';cases hinf'
 obtain⟨inf',hinf',rfl⟩:=q8q hby
 rw[hinf]at hinf';cases hinf'
 have hel : ∀e∈es.take i,e.length=inf.size:=fun e he=>k5 e (List.mem_of_mem_take he)
 have heln : ∀e∈es.take n,e.length=inf.size:=fun e he=>k5 e (List.mem_of_mem_take he)
 have hti:(es.take i).length=i:=by rw[wb];omega
 have htn2:(es.take n).length=n:=by rw[wb];omega
 obtain⟨m,hm⟩ : ∃m,m=n+1-i:=⟨_,rfl⟩
 rw[←hm]
 have hm0:0<m:=by omega
 have him:i+m=n+1:=by omega
 have hold : ∃olds,VRs (Γ.drop o) w (es.take i).flatten olds∧olds.length=i*inf.size ∧ ∀W:World,(∀x,W.cell? x=w.cell? x)→(Builtin.firstCells inf.size i (.slice A i cap)).run P W = .ok olds.toArray W:=by
  by_cases hne:i=0
  ·subst hne
   refine⟨[],by simp[VRs],by simp,fun W _ => ?_⟩
   cases A with
   |none=>exact run_firstCells_none _ _ _ _ _
   |some A=>exact run_firstCells_some _ inf.size 0 A _ _ [] (by simp) (by simp)
  ·obtain⟨b,off,sz',cap',e1,_,_,_,_,e5,e2⟩:=qqv v1 (by intro h;rw[h]at htn2;simp at htn2;omega)
   simp only[Value.slice.injEq]at e1
   obtain⟨rfl,_,rfl⟩:=e1
   have hszz:sz'=inf.size:=by
    have h0:0<(es.take n).length:=by omega
    rw[←e5 _ (List.getElem_mem h0),heln _ (List.getElem_mem h0)]
   subst hszz
   have e3:qi (Γ.drop o) w (es.take i).flatten (fun j=>w.cell? ⟨b,off+j,none⟩):=by
    have h1:es.take i=(es.take n).take i:=by rw[List.take_take,Nat.min_eq_left hi]
    rw[h1,qii i heln]
    exact e2.take _
   obtain⟨olds,e3,e4⟩:=e3.list
   have hol:olds.length=i*inf.size:=by rw[e3.length,qbo hel,hti]
   exact⟨olds,e3,hol,fun W hW=>run_firstCells_some W inf.size _ _ _ _ olds hol fun j v hj=>by rw[hW,Addr.add_lit];exact e4 j v hj⟩
 obtain⟨olds,o1,o2,o3⟩:=hold
 have hle:(n+1)*1≤(n+1)*inf.bytes:=Nat.mul_le_mul_left _ hb0
 have hcp:Builtin.nextslicecap (i+m) cap*inf.bytes≤281474976710656:=by
  have h1:=nextslicecap_le (show cap<i+m by omega)
  have h2:=wg inf.bytes h1
  rw[Nat.mul_assoc,him]at h2
  rw[him]
  omega
 have hmle:m*inf.bytes≤(n+1)*inf.bytes:=wg _ (by omega)
 have hrun:=Lib.run_append_grow_zeros (P:=P) w t tn ty el inf zv kq kn ht htn hinf hzv A i cap olds (o3 w.drew fun _=>rfl) m hm0 hs0 (by omega) (by omega) (by omega) hcp
 have hzl:0<zv.cells.size:=by omega
 have hnews:VRs (Γ.drop o) w (wd m (zv.cells.toList.map ofLeaf)).flatten (Builtin.zeroCells zv.cells m).toList:=by
  rw[q0p _ hzl];exact(VRs.ofLeaf zv.cells.toList).replicate m
 have hvv:VRs (Γ.drop o) w (es.take i++wd m (zv.cells.toList.map ofLeaf)).flatten (olds++(Builtin.zeroCells zv.cells m).toList):=by rw[List.flatten_append];exact o1.append hnews
 have hgc:=qwy w (i+m) cap el
 obtain⟨C,hC⟩ : ∃C,C=grownCap w (i+m) cap el:=⟨_,rfl⟩
 rw[←hC]at hrun hgc
 obtain⟨arr,harr⟩ : ∃arr,arr=olds.toArray++Builtin.zeroCells zv.cells m++Builtin.zeroCells zv.cells (C-(i+m)):=⟨_,rfl⟩
 rw[←harr]at hrun
 have hasz:arr.size=C*inf.size:=by
  rw[harr,Array.size_append,Array.size_append,qmi,qmi,List.size_toArray,o2,hzs,←Nat.add_mul,←Nat.add_mul]
  congr 1;omega
 have hB:Below w.heap.size w (w.drew.alloc (.cells arr el)):=(qzw w).trans (qd9 w.drew _)
 have hsize:w.heap.size<(w.drew.alloc (.cells arr el)).heap.size:=by simp
 have hs1 : ∀b,b<w.heap.size→(b=((Γ.drop o).loc o).b∧((Γ.drop o).loc o).ct≠0)∨(w.drew.alloc (.cells arr el)).heap[b]? = w.heap[b]?:=fun b hb => .inr (hB.block b hb)
 have hl:C≠0→(w.heap.size=((Γ.drop o).loc o).b∧((Γ.drop o).loc o).ct≠0∨w.heap.size≤w.heap.size)∧w.heap.size<(w.drew.alloc (.cells arr el)).heap.size:=fun _=>⟨.inr (wf _),hsize⟩
 have hgg:(⟨g+2,w.heap.size,inf.size,C⟩:Loc)=(Γ.drop o).loc o∨((Γ.drop o).loc o).g<g+2:=.inr (by rw[hl1];simp only;omega)
 have hn2:o<(Γ.drop o).n:=hnn
 have ee:=Ext.upd (l:=⟨g+2,w.heap.size,inf.size,C⟩) s1 hn2 hgg hB.size hs1 hl rfl rfl rfl
 have s2:=SR.upd (l:=⟨g+2,w.heap.size,inf.size,C⟩) s1 hn2 hgg hB.size hs1 hl rfl rfl rfl (ob:=.row inf.size (es.take i++wd m (zv.cells.toList.map ofLeaf)) (g+2)) (by
  simp only[OR,Ctx.upd_same]
  refine⟨trivial,trivial,hs0,by simp[wb];omega,fun x hx => ?_,.inr ⟨arr,el,qki w.drew _,hasz,?_⟩⟩
  ·rcases List.mem_append.1 hx with hx|hx
   ·exact hel x hx
   ·rw[List.eq_of_mem_replicate hx];simp;omega
  ·refine qi.of_list (VRs.mono ee _ _ hvv) fun j v hj => ?_
   have:arr[j]? = (olds++(Builtin.zeroCells zv.cells m).toList++(Builtin.zeroCells zv.cells (C-(i+m))).toList)[j]?:=by
    rw[harr,←Array.getElem?_toList];simp
   rw[this]
   exact quk hj)
 rw[List.set_set]at s2
 refine⟨_,_,_,hrun,?_,s2,x1.trans ee,VR.mono ee _ _ v1⟩
 simp only[VR,Ctx.upd_same]
 exact⟨_,C,by rw[him],by omega,by simp,hnn,wf _,fun _=>⟨by omega,.inr (by simp)⟩⟩
end Go.Ev
namespace Go.Ev
open Go.RowKit (Below)
variable {P:Program} {Γ Γ':Ctx} {w w':World} {σ σ':qf} {e e':Env} {a a':Act} {av:AV} {N:Nat}
theorem qy9 {sz:Nat} : ∀ {es:List (List AV)},qdk sz es=true ↔ ∀e∈es,e.length=sz∧qfk e=true
 | []=>by simp[qdk]
 |e::es=>by simp[qdk,qy9 (es:=es),and_assoc]
theorem qall {α:Type} {es:List α} {x y:α} {n j:Nat} (hn:n≤es.length) (hj:j<n) :
  let E:=es.take n++[y]
  let xs:=(E.drop j).take (n+1-j)
  let R1:=E.take (j+1)++(xs.take (n+1-(j+1))++E.drop (j+1+min xs.length (n+1-(j+1))))
  xs.take (n+1-(j+1))=(es.take n).drop j∧R1.length=n+1∧R1.take j++([x].take (n+1-j)++R1.drop (j+min 1 (n+1-j)))=es.take j++(x::(es.take n).drop j):=by
 intro E xs R1
 have hT:(es.take n).length=n:=by rw[wb];omega
 have hE:E.length=n+1:=by simp[E];omega
 have hxs:xs=(es.take n).drop j++[y]:=by
  simp only[xs,E]
  rw[List.drop_append_of_le_length (by omega),ztl (by simp;omega)]
 have hD:((es.take n).drop j).length=n-j:=by simp;omega
 have h1:xs.take (n+1-(j+1))=(es.take n).drop j:=by
  rw[hxs,we (by omega),ztl (by omega)]
 have h2:E.drop (j+1+min xs.length (n+1-(j+1)))=[]:=by
  apply List.drop_of_length_le
  have:xs.length=n-j+1:=by rw[hxs];simp;omega
  omega
 have hR1:R1=E.take (j+1)++(es.take n).drop j:=by simp only[R1];rw[h1,h2,List.append_nil]
 have hEt:(E.take (j+1)).length=j+1:=by rw[wb];omega
 refine⟨h1,by rw[hR1,List.length_append,hEt,hD];omega,?_⟩
 have h3:min 1 (n+1-j)=1:=by omega
 have h4:[x].take (n+1-j)=[x]:=ztl (by simp;omega)
 rw[h3,h4,hR1,List.drop_left' hEt,we (by omega),List.take_take,Nat.min_eq_left (by omega)]
 have h5:E.take j=es.take j:=by
  simp only[E]
  rw[we (by omega),List.take_take,Nat.min_eq_left (by omega)]
 rw[h5]
 simp
theorem qalj {α:Type} {es:List α} {x z:α} {n j:Nat} (hn:n≤es.length) (hj:j<n) :
  let E:=es.take j++wd (n+1-j) z
  let R1:=E.take j++([x].take (n+1-j)++E.drop (j+min 1 (n+1-j)))
  let xs:=((es.take n).drop j).take (n-j)
  xs.take (n+1-(j+1))=(es.take n).drop j∧R1.length=n+1∧R1.take (j+1)++(xs.take (n+1-(j+1))++R1.drop (j+1+min xs.length (n+1-(j+1))))=es.take j++(x::(es.take n).drop j):=by
 intro E R1 xs
 have hT:(es.take j).length=j:=by rw[wb];omega
 have hD:((es.take n).drop j).length=n-j:=by simp;omega
 have hxs:xs=(es.take n).drop j:=ztl (by omega)
 have h1:xs.take (n+1-(j+1))=(es.take n).drop j:=by rw[hxs];exact ztl (by omega)
 have h3:min 1 (n+1-j)=1:=by omega
 have h4:[x].take (n+1-j)=[x]:=ztl (by simp;omega)
 have h5:E.take j=es.take j:=List.take_left' hT
 have hR1:R1=es.take j++([x]++E.drop (j+1)):=by simp only[R1];rw[h3,h4,h5]
 have hE:E.length=n+1:=by simp[E];omega
 have hlen:R1.length=n+1:=by rw[hR1,List.length_append,List.length_append,hT,List.length_drop,hE,List.length_singleton];omega
 refine⟨h1,hlen,?_⟩
 have h7:R1.drop (j+1+min xs.length (n+1-(j+1)))=[]:=List.drop_of_length_le (by rw[hlen,hxs,hD];omega)
 rw[h1,h7,List.append_nil]
 have h6:R1.take (j+1)=es.take j++[x]:=by
  rw[hR1,←List.append_assoc]
  exact List.take_left' (by simp;omega)
 rw[h6];simp
def cMv (d s:Nat):COper:=⟨some d,none,.op (.mv (.t s))⟩
def cAdd (d x y:Nat):COper:=⟨some d,none,.op (.bin .add (.t x) (.t y))⟩
def q6t (sz d x y:Nat):COper:=⟨some d,none,.op (.slc sz (.t x) (some (.t y)) none none)⟩
def qai5 (sz d x y:Nat):COper:=⟨some d,none,.op (.copy sz (.t x) (.t y))⟩
def iR0:CCode:=.region [⟨some 6,none,.op (.mv (.c (.fsl [] true)))⟩]
def iR1 (sz:Nat):CCode:=.region [cMv 10 0,cMv 11 1,q6t sz 12 10 11]
def iR2:CCode:=.region [cMv 13 2,⟨some 14,none,.op (.len (.t 13))⟩,cMv 7 14]
def iR3:CCode:=.region [cMv 15 7,⟨some 16,none,.op (.bin .eql (.t 15) (.c (.v (.int .i64 0))))⟩]
def iR5:CCode:=.region [cMv 18 0,⟨some 19,none,.op (.len (.t 18))⟩,cMv 8 19]
def iR6:CCode:=.region [cMv 20 1,cMv 21 8,⟨some 22,none,.op (.bin .eql (.t 20) (.t 21))⟩]
def iA7 (sz bytes:Nat):CCode:=.seq (.region [cMv 23 0,cMv 24 2,⟨some 25,none,.op (.app sz bytes (.t 23) (.t 24))⟩,cMv 6 25]) .ret
def iA10 (sz : Nat) : CCode := .seq (.region [cMv 41 9, cMv 42 1, q6t sz 43 41 42, cMv 44 2, qai5 sz 45 43 44]) (.seq (.region [cMv 46 9, cMv 47 1, cMv 48 7, cAdd 49 47 48, q6t sz 50 46 49, cMv 51 0, cMv 52 1, q6t sz 53 51 52, qai5 sz 54 50 53])
  (.seq (.region [cMv 55 9, cMv 6 55]) .ret))
def iA15 (sz : Nat) : CCode := .seq (.region [cMv 69 0, cMv 70 1, cMv 71 7, cAdd 72 70 71, q6t sz 73 69 72, cMv 74 0, cMv 75 1, q6t sz 76 74 75, qai5 sz 77 73 76]) (.seq (.region [cMv 78 0, cMv 79 1, q6t sz 80 78 79, cMv 81 2, qai5 sz 82 80 81])
  (.seq (.region [cMv 83 0, cMv 6 83]) .ret))
theorem q7b {O:Orc} {d dt st sz o g off len:Nat} {c:Bool} {y:AV} {xs es R:List (List AV)} (h1:e.get dt=some (.sl o g off len c)) (h2:e.get st=some y) (hy:y.isV=false) (hc:qdr σ y=some xs) (hσ:σ[o]? = some (.row sz es g)) (hle:off+len≤es.length)
  (hok:qdk sz (xs.take len)=true) (hR:es.take off++(xs.take len++es.drop (off+min xs.length len))=R):qgy O e σ (qai5 sz d dt st)=some (e.set (some d) (.v (.int .i64 (min xs.length len:Nat))),σ.set o (.row sz R g)):=by
 subst hR
 simp only[qgy,qai5,qae,qdy,Opnd.ev,h1,h2,wc,hy,hc,hσ,hle,hok,and_self,if_true,Bool.false_eq_true,if_false]
theorem qgi {O:Orc} {d s:Nat} {y:AV} (h:e.get s=some y):qgy O e σ (cMv d s)=some (e.set (some d) y,σ):=by simp[qgy,cMv,qae,qdy,Opnd.ev,h]
theorem qxd {O:Orc} {d x y sz o g n:Nat} {c:Bool} {j:Nat} {es:List (List AV)} (h1:e.get x=some (.sl o g 0 n c)) (h2:e.get y=some (.v (.int .i64 (j:Int)))) (hσ:σ[o]? = some (.row sz es g)) (hj:j≤n):qgy O e σ (q6t sz d x y)=some (e.set (some d) (.sl o g j (n-j) c),σ):=by
 simp only[qgy,q6t,qae,qdy,Opnd.ev,h1,h2,wc,hσ,qpi]
 rw[if_pos ⟨by omega,by omega,by omega,by omega,by omega,trivial,trivial,by simp⟩]
 simp
theorem ev_tailF {O:Orc} {d x y sz:Nat} {j:Nat} {es:List (List AV)} (h1:e.get x=some (.fsl es false)) (h2:e.get y=some (.v (.int .i64 (j:Int)))) (hok:qdk sz es=true) (hj:j≤es.length):qgy O e σ (q6t sz d x y)=some (e.set (some d) (.fsl ((es.drop j).take (es.length-j)) false),σ):=by
 simp only[qgy,q6t,qae,qdy,Opnd.ev,h1,h2,wc,qpi]
 rw[if_pos ⟨by omega,by omega,by omega,by omega,by omega,hok,by simp⟩]
 simp
theorem q3v {O:Orc} {d x y:Nat} {i j:Nat} (h1:e.get x=some (.v (.int .i64 (i:Int)))) (h2:e.get y=some (.v (.int .i64 (j:Int)))) (hb:i+j<2^63):qgy O e σ (cAdd d x y)=some (e.set (some d) (.v (.int .i64 ((i+j:Nat):Int))),σ):=by
 have hw:IntKind.i64.wrap ((i:Int)+(j:Int))=((i+j:Nat):Int):=by rw[IntKind.wrap_i64];omega
 simp[qgy,cAdd,qae,qdy,Opnd.ev,h1,h2,qn2,hw]
theorem qav {O:Orc} {c:COper} {r:List COper} {e1:Env} {σ1:qf} {x:Env×qf} (h1:qgy O e σ c=some (e1,σ1)) (h2:qah O r e1 σ1=some x):qah O (c::r) e σ=some x:=by simp only[qah,h1,wc,h2]
theorem qn9 {O:Orc}:qah O [] e σ=some (e,σ):=rfl
theorem q7w {O:Orc} {I:qads} {ro:Option Nat} {cs:List COper} {x:Env×qf} (h:qah O cs e σ=some x):exec O I ro (.region cs) e σ=some (.normal,x.1,x.2):=by simp only[exec,h,wc]
theorem qabg {O:Orc} {I:qads} {ro:Option Nat} {p q:CCode} {e1:Env} {σ1:qf} {r:CExit×Env×qf} (h1:exec O I ro p e σ=some (.normal,e1,σ1)) (h2:exec O I ro q e1 σ1=some r):exec O I ro (.seq p q) e σ=some r:=by simp only[exec,h1,wc,h2]
theorem ex_ret {O:Orc} {I:qads} {ro:Option Nat}:exec O I ro .ret e σ=some (.ret,e,σ):=by simp only[exec]
theorem exec_A15 {o g n j sz : Nat} {es : List (List AV)} {x y : List AV} {cx : Bool} {vars : List (Nat × AV)} {σ : qf} (ho : o < σ.length) (hn : n ≤ es.length) (hj : j < n) (hx : qdk sz [x] = true) (hok : qdk sz (es.take n) = true) (hb : n < 2 ^ 62)
    (h0 : look vars 0 = some (.sl o g 0 (n + 1) false)) (h1 : look vars 1 = some (.v (.int .i64 (j : Int)))) (h2 : look vars 2 = some (.fsl [x] cx)) (h7 : look vars 7 = some (.v (.int .i64 1))) :
    ∃ e', exec qyq itL none (iA15 sz) ⟨vars, []⟩ (σ.set o (.row sz (es.take n ++ [y]) g)) = some (.ret, e', σ.set o (.row sz (es.take j ++ (x :: (es.take n).drop j)) g)) ∧ e'.marks = [] ∧ e'.get 6 = some (.sl o g 0 (n + 1) false) := by
  obtain ⟨l1, l2, l3⟩ := qall (x := x) (y := y) hn hj
  have hso : ∀ ob, (σ.set o ob)[o]? = some ob := fun ob => by simp [ho]
  have hE : (es.take n ++ [y]).length = n + 1 := by simp; omega
  have h7' : look vars 7 = some (.v (.int .i64 ((1 : Nat) : Int))) := h7
  have hok1 : qdk sz ((((es.take n ++ [y]).drop j).take (n + 1 - j)).take (n + 1 - (j + 1))) = true := by
    rw [l1, qy9]
    exact fun e he => qy9.1 hok e (List.mem_of_mem_drop he)
  have hcon : qdr (σ.set o (.row sz (es.take n ++ [y]) g)) (.sl o g j (n + 1 - j) false) = some (((es.take n ++ [y]).drop j).take (n + 1 - j)) := by
    simp only [qdr, hso]
    rw [if_pos ⟨trivial, by omega⟩]
  obtain ⟨R1, hR1⟩ : ∃ R1, R1 = (es.take n ++ [y]).take (j + 1) ++ ((((es.take n ++ [y]).drop j).take (n + 1 - j)).take (n + 1 - (j + 1)) ++ (es.take n ++ [y]).drop (j + 1 + min (((es.take n ++ [y]).drop j).take (n + 1 - j)).length (n + 1 - (j + 1)))) := ⟨_, rfl⟩
  rw [← hR1] at l2 l3
  have hset : ∀ ob1 ob2, (σ.set o ob1).set o ob2 = σ.set o ob2 := fun _ _ => List.set_set ..
  have hxt : qdk sz ([x].take (n + 1 - j)) = true := by rw [ztl (by simp; omega)]; exact hx
  refine ⟨_, qabg (q7w (qav (qgi (y := .sl o g 0 (n + 1) false) (by simp [Env.get, h0])) (qav (qgi (y := .v (.int .i64 (j : Int))) (by simp [Env.get, Env.set, look, h1])) (qav (qgi (y := .v (.int .i64 ((1 : Nat) : Int))) (by simp [Env.get, Env.set, look, h7]))
    (qav (q3v (i := j) (j := 1) (by simp [Env.get, Env.set, look]) (by simp [Env.get, Env.set, look]) (by omega)) (qav (qxd (o := o) (g := g) (n := n + 1) (c := false) (j := j + 1) (by simp [Env.get, Env.set, look]) (by simp [Env.get, Env.set, look]) (hso _) (by omega))
    (qav (qgi (y := .sl o g 0 (n + 1) false) (by simp [Env.get, Env.set, look, h0])) (qav (qgi (y := .v (.int .i64 (j : Int))) (by simp [Env.get, Env.set, look, h1])) (qav (qxd (o := o) (g := g) (n := n + 1) (c := false) (j := j) (by simp [Env.get, Env.set, look]) (by simp [Env.get, Env.set, look]) (hso _) (by omega))
    (qav (q7b (o := o) (g := g) (off := j + 1) (len := n + 1 - (j + 1)) (c := false) (y := .sl o g j (n + 1 - j) false) (by simp [Env.get, Env.set, look]) (by simp [Env.get, Env.set, look]) rfl hcon (hso _) (by omega) hok1 hR1.symm) qn9))))))))))
    (qabg (q7w (qav (qgi (y := .sl o g 0 (n + 1) false) (by simp [Env.get, Env.set, look, h0])) (qav (qgi (y := .v (.int .i64 (j : Int))) (by simp [Env.get, Env.set, look, h1])) (qav (qxd (o := o) (g := g) (n := n + 1) (c := false) (j := j) (es := R1) (by simp [Env.get, Env.set, look]) (by simp [Env.get, Env.set, look]) (by rw [hset]; exact hso _) (by omega))
    (qav (qgi (y := .fsl [x] cx) (by simp [Env.get, Env.set, look, h2])) (qav (q7b (o := o) (g := g) (off := j) (len := n + 1 - j) (c := false) (y := .fsl [x] cx) (xs := [x]) (es := R1) (by simp [Env.get, Env.set, look]) (by simp [Env.get, Env.set, look]) rfl rfl (by rw [hset]; exact hso _) (by omega) hxt l3) qn9))))))
    (qabg (q7w (qav (qgi (y := .sl o g 0 (n + 1) false) (by simp [Env.get, Env.set, look, h0])) (qav (qgi (y := .sl o g 0 (n + 1) false) (by simp [Env.get, Env.set, look])) qn9))) (by rw [hset, hset]; exact ex_ret))), rfl, by simp [Env.get, Env.set, look]⟩
theorem exec_A10 {o g n j sz : Nat} {es : List (List AV)} {x z : List AV} {cx : Bool} {vars : List (Nat × AV)} {σ : qf} (ho : o < σ.length) (hn : n ≤ es.length) (hj : j < n) (hx : qdk sz [x] = true) (hok : qdk sz (es.take n) = true) (hb : n < 2 ^ 62)
    (h0 : look vars 0 = some (.fsl (es.take n) false)) (h1 : look vars 1 = some (.v (.int .i64 (j : Int)))) (h2 : look vars 2 = some (.fsl [x] cx)) (h7 : look vars 7 = some (.v (.int .i64 1))) (h9 : look vars 9 = some (.sl o g 0 (n + 1) false)) :
    ∃ e', exec qyq itL none (iA10 sz) ⟨vars, []⟩ (σ.set o (.row sz (es.take j ++ wd (n + 1 - j) z) g)) = some (.ret, e', σ.set o (.row sz (es.take j ++ (x :: (es.take n).drop j)) g)) ∧ e'.marks = [] ∧ e'.get 6 = some (.sl o g 0 (n + 1) false) := by
  obtain ⟨l1, l2, l3⟩ := qalj (x := x) (z := z) hn hj
  have hso : ∀ ob, (σ.set o ob)[o]? = some ob := fun ob => by simp [ho]
  have hE : (es.take j ++ wd (n + 1 - j) z).length = n + 1 := by simp; omega
  have hT : (es.take n).length = n := by rw [wb]; omega
  have h7' : look vars 7 = some (.v (.int .i64 ((1 : Nat) : Int))) := h7
  have hok1 : qdk sz ((((es.take n).drop j).take (n - j)).take (n + 1 - (j + 1))) = true := by
    rw [l1, qy9]
    exact fun e he => qy9.1 hok e (List.mem_of_mem_drop he)
  obtain ⟨R1, hR1⟩ : ∃ R1, R1 = (es.take j ++ wd (n + 1 - j) z).take j ++ ([x].take (n + 1 - j) ++ (es.take j ++ wd (n + 1 - j) z).drop (j + min 1 (n + 1 - j))) := ⟨_, rfl⟩
  rw [← hR1] at l2 l3
  have hset : ∀ ob1 ob2, (σ.set o ob1).set o ob2 = σ.set o ob2 := fun _ _ => List.set_set ..
  have hxt : qdk sz ([x].take (n + 1 - j)) = true := by rw [ztl (by simp; omega)]; exact hx
  refine ⟨_, qabg (q7w (qav (qgi (y := .sl o g 0 (n + 1) false) (by simp [Env.get, h9])) (qav (qgi (y := .v (.int .i64 (j : Int))) (by simp [Env.get, Env.set, look, h1])) (qav (qxd (o := o) (g := g) (n := n + 1) (c := false) (j := j) (by simp [Env.get, Env.set, look]) (by simp [Env.get, Env.set, look]) (hso _) (by omega))
    (qav (qgi (y := .fsl [x] cx) (by simp [Env.get, Env.set, look, h2])) (qav (q7b (o := o) (g := g) (off := j) (len := n + 1 - j) (c := false) (y := .fsl [x] cx) (xs := [x]) (by simp [Env.get, Env.set, look]) (by simp [Env.get, Env.set, look]) rfl rfl (hso _) (by omega) hxt hR1.symm) qn9))))))
    (qabg (q7w (qav (qgi (y := .sl o g 0 (n + 1) false) (by simp [Env.get, Env.set, look, h9])) (qav (qgi (y := .v (.int .i64 (j : Int))) (by simp [Env.get, Env.set, look, h1])) (qav (qgi (y := .v (.int .i64 ((1 : Nat) : Int))) (by simp [Env.get, Env.set, look, h7]))
    (qav (q3v (i := j) (j := 1) (by simp [Env.get, Env.set, look]) (by simp [Env.get, Env.set, look]) (by omega)) (qav (qxd (o := o) (g := g) (n := n + 1) (c := false) (j := j + 1) (es := R1) (by simp [Env.get, Env.set, look]) (by simp [Env.get, Env.set, look]) (by rw [hset]; exact hso _) (by omega))
    (qav (qgi (y := .fsl (es.take n) false) (by simp [Env.get, Env.set, look, h0])) (qav (qgi (y := .v (.int .i64 (j : Int))) (by simp [Env.get, Env.set, look, h1])) (qav (ev_tailF (j := j) (es := es.take n) (by simp [Env.get, Env.set, look]) (by simp [Env.get, Env.set, look]) hok (by omega))
    (qav (q7b (o := o) (g := g) (off := j + 1) (len := n + 1 - (j + 1)) (c := false) (y := .fsl (((es.take n).drop j).take (n - j)) false) (xs := ((es.take n).drop j).take (n - j)) (es := R1) (by simp [Env.get, Env.set, look]) (by simp [Env.get, Env.set, look, hT]) rfl rfl (by rw [hset]; exact hso _) (by omega) hok1 l3) qn9))))))))))
    (qabg (q7w (qav (qgi (y := .sl o g 0 (n + 1) false) (by simp [Env.get, Env.set, look, h9])) (qav (qgi (y := .sl o g 0 (n + 1) false) (by simp [Env.get, Env.set, look])) qn9))) (by rw [hset, hset]; exact ex_ret))), rfl, by simp [Env.get, Env.set, look]⟩
end Go.Ev
namespace Go.Ev
open Go.RowKit (Below)
variable {P:Program} {Γ Γ':Ctx} {w w':World} {σ σ':qf} {e e':Env} {a a':Act} {av:AV} {N:Nat}
def qm7:Code→Option (Code×Code) | .seq a b=>some (a,b) | _=>none
def qabp (t:Nat):Code→Option Code | .cond (.tmp t') A .skip=>if t'=t then some A else none | _=>none
def q4c:Code→Option (Nat×Array Oper) | .region i ops false=>some (i,ops) | _=>none
theorem qhx {c a b:Code} (h:qm7 c=some (a,b)):c = .seq a b:=by
 unfold qm7 at h;split at h
 ·cases h;rfl
 ·cases h
theorem q23 {t:Nat} {c A:Code} (h:qabp t c=some A):c = .cond (.tmp t) A .skip:=by
 unfold qabp at h;split at h
 ·split at h
  ·rename_i ht;cases h;rw[ht]
  ·cases h
 ·cases h
theorem qz2 {c:Code} {i:Nat} {ops:Array Oper} (h:q4c c=some (i,ops)):c = .region i ops false:=by
 unfold q4c at h;split at h
 ·cases h;rfl
 ·cases h
structure InsParts where
 fn:Func
 r0:Code
 r1:Code
 r2:Code
 r3:Code
 A4:Code
 r5:Code
 r6:Code
 A7:Code
 i8:Nat
 ops8:Array Oper
 i9:Nat
 ops9:Array Oper
 A10:Code
 i13:Nat
 ops13:Array Oper
 i14:Nat
 ops14:Array Oper
 A15:Code
 rest:Code
def InsParts.code (p : InsParts) : Code := .seq p.r0 (.seq p.r1 (.seq p.r2 (.seq (.seq p.r3 (.cond (.tmp 16) p.A4 .skip)) (.seq p.r5 (.seq (.seq p.r6 (.cond (.tmp 22) p.A7 .skip))
  (.seq (.seq (.region p.i8 p.ops8 false) (.cond (.tmp 31) (.seq (.region p.i9 p.ops9 false) p.A10) .skip)) (.seq (.region p.i13 p.ops13 false) (.seq (.seq (.region p.i14 p.ops14 false) (.cond (.tmp 68) p.A15 .skip)) p.rest))))))))
def qdt (P:Program) (k:Nat):Option InsParts:=
 (P.funcs[k]?).bind fun fn=>fn.body.bind fun c=>(qm7 c).bind fun x0=>(qm7 x0.2).bind fun x1=>(qm7 x1.2).bind fun x2=>(qm7 x2.2).bind fun x3=>(qm7 x3.1).bind fun y3=>(qabp 16 y3.2).bind fun A4=>
 (qm7 x3.2).bind fun x5=>(qm7 x5.2).bind fun x6=>(qm7 x6.1).bind fun y6=>(qabp 22 y6.2).bind fun A7=>(qm7 x6.2).bind fun x8=>(qm7 x8.1).bind fun y8=>(q4c y8.1).bind fun r8=>(qabp 31 y8.2).bind fun c9=>
 (qm7 c9).bind fun y9=>(q4c y9.1).bind fun r9=>(qm7 x8.2).bind fun x13=>(q4c x13.1).bind fun r13=>(qm7 x13.2).bind fun x14=>(qm7 x14.1).bind fun y14=>(q4c y14.1).bind fun r14=>(qabp 68 y14.2).bind fun A15=>
 some ⟨fn,x0.1,x1.1,x2.1,y3.1,A4,x5.1,y6.1,A7,r8.1,r8.2,r9.1,r9.2,y9.2,r13.1,r13.2,r14.1,r14.2,A15,x14.2⟩
theorem q9d {k:Nat} {p:InsParts} (h:qdt P k=some p):P.funcs[k]? = some p.fn∧p.fn.body=some p.code:=by
 simp only[qdt,zob]at h
 obtain⟨fn,h1,c,h2,⟨r0,c0⟩,q0,⟨r1,c1⟩,q1,⟨r2,c2⟩,q2,⟨c3,d3⟩,q3,⟨r3,e3⟩,q4,A4,q5,⟨r5,c5⟩,q6,⟨c6,d6⟩,q7,⟨r6,e6⟩,q8,A7,q9,⟨c8,d8⟩,q10,⟨s8,e8⟩,q11,⟨i8,ops8⟩,q12,c9,q13,⟨s9,A10⟩,q14,⟨i9,ops9⟩,q15,
  ⟨s13,d13⟩,q16,⟨i13,ops13⟩,q17,⟨c14,rest⟩,q18,⟨s14,e14⟩,q19,⟨i14,ops14⟩,q20,A15,q21,h⟩:=h
 cases h
 refine⟨h1,?_⟩
 rw[h2]
 have:=qhx q0;have:=qhx q1;have:=qhx q2;have:=qhx q3;have:=qhx q4;have:=q23 q5;have:=qhx q6;have:=qhx q7;have:=qhx q8;have:=q23 q9;have:=qhx q10
 have:=qhx q11;have:=qz2 q12;have:=q23 q13;have:=qhx q14;have:=qz2 q15;have:=qhx q16;have:=qz2 q17;have:=qhx q18;have:=qhx q19;have:=qz2 q20;have:=q23 q21
 simp only at *
 subst_vars
 rfl
def opCap (o:Oper):Option TypeId:=match o.op with
 | .call ⟨.builtin .cap,args,tys⟩=>match args.toList,tys.toList with
  | [.tmp 29],[t]=>if o.dst=some 30∧o.guard=none then some t else none
  | _,_=>none
 | _=>none
theorem opCap_ok {o:Oper} {t:TypeId} (h:opCap o=some t):o.op = .call ⟨.builtin .cap,#[.tmp 29],#[t]⟩∧o.dst=some 30∧o.guard=none:=by
 unfold opCap at h;split at h
 ·rename_i args tys ho
  split at h
  ·rename_i h1 h2
   split at h
   ·rename_i hc
    cases h
    refine⟨?_,hc⟩
    rw[ho,←Array.toArray_toList (xs:=args),←Array.toArray_toList (xs:=tys),h1,h2]
   ·cases h
  ·cases h
 ·cases h
def qaiv (d x y:Nat) (o:Oper):Option TypeId:=match o.op with
 | .slice t (.tmp x') none (some (.tmp y')) none=>if x'=x∧y'=y∧o.dst=some d∧o.guard=none then some t else none
 | _=>none
theorem qaef {d x y:Nat} {o:Oper} {t:TypeId} (h:qaiv d x y o=some t):o.op = .slice t (.tmp x) none (some (.tmp y)) none∧o.dst=some d∧o.guard=none:=by
 unfold qaiv at h;split at h
 ·rename_i t' x' y' ho
  split at h
  ·rename_i hc
   cases h
   obtain⟨rfl,rfl,hc⟩:=hc
   exact⟨ho,hc⟩
  ·cases h
 ·cases h
def opApp (o:Oper):Option (TypeId×TypeId):=match o.op with
 | .call ⟨.builtin .append,args,tys⟩=>match args.toList,tys.toList with
  | [.tmp 34,.tmp 39],[t,tn]=>if o.dst=some 40∧o.guard=none then some (t,tn)else none
  | _,_=>none
 | _=>none
theorem opApp_ok {o:Oper} {t tn:TypeId} (h:opApp o=some (t,tn)):o.op = .call ⟨.builtin .append,#[.tmp 34,.tmp 39],#[t,tn]⟩∧o.dst=some 40∧o.guard=none:=by
 unfold opApp at h;split at h
 ·rename_i args tys ho
  split at h
  ·rename_i h1 h2
   split at h
   ·rename_i hc
    cases h
    refine⟨?_,hc⟩
    rw[ho,←Array.toArray_toList (xs:=args),←Array.toArray_toList (xs:=tys),h1,h2]
   ·cases h
  ·cases h
 ·cases h
def opOvl (o:Oper):Option Nat:=match o.op with
 | .call ⟨.value (.func f),args,_⟩=>match args.toList with
  | [.tmp 61,.tmp 66]=>if o.dst=some 67∧o.guard=none then some f else none
  | _=>none
 | _=>none
theorem opOvl_ok {o:Oper} {f:Nat} (h:opOvl o=some f):(∃tys,o.op = .call ⟨.value (.func f),#[.tmp 61,.tmp 66],tys⟩)∧o.dst=some 67∧o.guard=none:=by
 unfold opOvl at h;split at h
 ·rename_i f' args tys ho
  split at h
  ·rename_i h1
   split at h
   ·rename_i hc
    cases h
    refine⟨⟨tys,?_⟩,hc⟩
    rw[ho,←Array.toArray_toList (xs:=args),h1]
   ·cases h
  ·cases h
 ·cases h
end Go.Ev
namespace Go.Ev
open Go.RowKit (Below)
variable {P:Program} {Γ Γ':Ctx} {w w':World} {σ σ':qf} {e e':Env} {a a':Act} {av:AV} {N:Nat}
def isIntT (P:Program) (t:TypeId):Bool:=match P.underlying t with|some (.int _)=>true | _=>false
def isTmp6:List ResultVar→Bool | [.tmp 6]=>true | _=>false
def qaib (P:Program) (sz bytes f:Nat) (p:InsParts):Option Unit:=
 ((p.ops8[4]?).bind opCap).bind fun tc=>((p.ops9[2]?).bind (qaiv 34 32 33)).bind fun t34=>((p.ops9[8]?).bind opApp).bind fun x=>((p.ops13[4]?).bind (qaiv 60 56 59)).bind fun t60=>((p.ops14[6]?).bind opOvl).bind fun f'=>
 (qz7 P tc).bind fun _=>(qz7 P t34).bind fun e34=>(qz7 P x.1).bind fun el=>(qz7 P t60).bind fun e60=>
 if f'=f∧szT P e34=some sz∧szT P el=some sz∧byT P el=some bytes∧(zT P el).isSome=true∧szT P e60=some sz∧isIntT P x.2=true then some ()else none
def qxq (P:Program) (ops:Array Oper) (l:List Nat):Option (List COper):=qil (fun i=>(ops[i]?).bind (q8m P {} 95 ops)) l
structure InsB (P:Program) (k sz bytes f:Nat) (tS tR:TypeId):Prop where
 pre : ((qdt P k).map fun p => (p.fn.name == "runtime.NumGoroutine", p.fn.params.size + p.fn.nfree, p.fn.ntmps, isTmp6 p.fn.results.toList)) = some (false, 3, 95, true)
 sizes:((qdt P k).map fun p=>(p.ops8.size,p.ops9.size,p.ops13.size,p.ops14.size))=some (6,10,6,8)
 c0:((qdt P k).bind fun p=>qla P {} 95 p.r0 0)=some (iR0,0)
 c1:((qdt P k).bind fun p=>qla P {} 95 p.r1 0)=some (iR1 sz,0)
 c2:((qdt P k).bind fun p=>qla P {} 95 p.r2 0)=some (iR2,0)
 c3:((qdt P k).bind fun p=>qla P {} 95 p.r3 0)=some (iR3,0)
 c5:((qdt P k).bind fun p=>qla P {} 95 p.r5 0)=some (iR5,0)
 c6:((qdt P k).bind fun p=>qla P {} 95 p.r6 0)=some (iR6,0)
 c7:((qdt P k).bind fun p=>qla P {} 95 p.A7 0)=some (iA7 sz bytes,0)
 c10:((qdt P k).bind fun p=>qla P {} 95 p.A10 0)=some (iA10 sz,0)
 c15:((qdt P k).bind fun p=>qla P {} 95 p.A15 0)=some (iA15 sz,0)
 o8a:((qdt P k).bind fun p=>qxq P p.ops8 [0,1,2,3])=some [cMv 26 8,cMv 27 7,cAdd 28 26 27,cMv 29 0]
 o8b:((qdt P k).bind fun p=>qxq P p.ops8 [5])=some [⟨some 31,none,.op (.bin .gtr (.t 28) (.t 30))⟩]
 o9a:((qdt P k).bind fun p=>qxq P p.ops9 [0,1])=some [cMv 32 0,cMv 33 1]
 o9b:((qdt P k).bind fun p=>qxq P p.ops9 [3,4,5,6,7])=some [cMv 35 8,cMv 36 7,cAdd 37 35 36,cMv 38 1,⟨some 39,none,.op (.bin .sub (.t 37) (.t 38))⟩]
 o9c:((qdt P k).bind fun p=>qxq P p.ops9 [9])=some [cMv 9 40]
 o13a:((qdt P k).bind fun p=>qxq P p.ops13 [0,1,2,3])=some [cMv 56 0,cMv 57 8,cMv 58 7,cAdd 59 57 58]
 o13b:((qdt P k).bind fun p=>qxq P p.ops13 [5])=some [cMv 0 60]
 o14a:((qdt P k).bind fun p=>qxq P p.ops14 [0,1,2,3,4,5])=some [cMv 61 2,cMv 62 0,cMv 63 1,cMv 64 7,cAdd 65 63 64,q6t sz 66 62 65]
 o14b:((qdt P k).bind fun p=>qxq P p.ops14 [7])=some [⟨some 68,none,.op (.un .not (.t 67))⟩]
 types:((qdt P k).bind (qaib P sz bytes f))=some ()
 fpre : ((P.funcs[f]?).map fun fn => (fn.name == "runtime.NumGoroutine", fn.body.isNone, (Extern.findNext fn).isNone)) = some (false, true, true)
 fext:((P.funcs[f]?).bind Extern.find)=some (Extern.SlicesOverlaps.overlaps #[tS,tS] #[tR])
 fel:((qz7 P tS).bind (szT P))=some sz
theorem q0u {ops:Array Oper} {Q:Exit→Act→World→Prop} {e':Env} {σ':qf} {l2:List Nat} :
  ∀(l:List Nat) {cs:List COper} {e:Env} {σ:qf} {Γ:Ctx} {a:Act} {w:World},qxq P ops l=some cs→qah qyq cs e σ=some (e',σ')→AR P Γ 95 e σ a w →
   (∀ Γ' a' w',Ext Γ Γ' w w'→AR P Γ' 95 e' σ' a' w'→wpOpsIn (FR none) 0 P ops Q l2 a' w')→wpOpsIn (FR none) 0 P ops Q (l++l2) a w
 | [],cs,e,σ,Γ,a,w,hc,he,ha,hq=>by
  simp only[qxq,qil]at hc
  cases hc
  simp only[qah]at he
  cases he
  exact hq Γ a w (Ext.refl _ _) ha
 |i::l,cs,e,σ,Γ,a,w,hc,he,ha,hq=>by
  simp only[qxq,qil,zob]at hc
  obtain⟨c,⟨o,ho,hco⟩,cs',hcs,hc⟩:=hc
  cases hc
  simp only[qah,zob]at he
  obtain⟨⟨e1,σ1⟩,h1,h2⟩:=he
  rw[List.cons_append,wpOpsIn_cons]
  exact qac9 qub qsf ho hco h1 ha fun Γ1 a1 w1 x1 ha1=>q0u l hcs h2 ha1 fun Γ2 a2 w2 x2 ha2=>hq Γ2 a2 w2 (x1.trans x2) ha2
theorem AR.keep (ha:AR P Γ N e σ a w) (l:List Nat):AR P Γ N ⟨Ev.keep e l,e.marks⟩ σ a w:=⟨fun t av ht=>ha.ve t av (qso e ht),ha.sr,ha.sz,ha.mr⟩
theorem AR.pin (ha:AR P Γ N e σ a w) (t:Nat):AR P Γ N ⟨(t,.v (a.tmps.getD t undef))::e.vars,e.marks⟩ σ a w:=⟨fun t' av ht=>by
 simp only[look]at ht
 split at ht
 ·rename_i h;subst h;cases ht;simp only[VR]
 ·exact ha.ve t' av ht,ha.sr,ha.sz,ha.mr⟩
theorem AR.unpin {t:Nat} {v:Value} (ha:AR P Γ N e σ a w) (h:e.get t=some (.v v)) (hv:VR Γ w av v):AR P Γ N ⟨(t,av)::e.vars,e.marks⟩ σ a w:=⟨fun t' av' ht=>by
 simp only[look]at ht
 split at ht
 ·rename_i h';subst h';cases ht
  have h0:=ha.ve _ _ h
  simp only[VR]at h0
  rw[h0];exact hv
 ·exact ha.ve t' av' ht,ha.sr,ha.sz,ha.mr⟩
theorem q7s {ops:Array Oper} {Q:Exit→Act→World→Prop} {i:Nat} {o:Oper} {K:Act→World→Prop} {G:Value→World→Prop} (hi:ops[i]? = some o) (hnd : ∀c,o.op ≠ .defer c)
  (hg:o.guard=none) (h:qtb P G ((execOp a.eval o).run P w)) (hK : ∀v w',G v w'→K (a.put o.dst v) w'):wpOpIn (FR none) 0 P ops Q i K a w:=
 qanc hi hnd (by simp[Region.wanted,hg]) h hK
theorem qamq {o:Oper} {t el:TypeId} (h:o.op = .call ⟨.builtin .cap,#[.tmp 29],#[t]⟩) (ht:P.underlying t=some (.slice el)) {A:Option Addr} {n c:Nat} (hv:a.tmps.getD 29 undef = .slice A n c) :
  (execOp a.eval o).run P w = .ok (.value (.int .i64 (c:Int))) w:=by
 obtain⟨dst,op,type,pos,after,guard⟩:=o
 simp only at h
 subst h
 have h1:a.eval (.tmp 29) = .slice A n c:=hv
 simp[execOp,resolve,invoke,builtin,Builtin.cap_,run_underlying ht,h1];rfl
theorem qaax {o:Oper} {t el:TypeId} {x y sz:Nat} (h:o.op = .slice t (.tmp x) none (some (.tmp y)) none) (ht:P.underlying t=some (.slice el)) (hsz:szT P el=some sz) {A:Option Addr} {n c m:Nat} (hv:a.tmps.getD x undef = .slice A n c) (hy:a.tmps.getD y undef = .int .i64 (m:Int)) (hm:m≤c) :
  (execOp a.eval o).run P w = .ok (.value (.slice A m c)) w:=by
 obtain⟨dst,op,type,pos,after,guard⟩:=o
 simp only at h
 subst h
 have h1:a.eval (.tmp x) = .slice A n c:=hv
 have h2:a.eval (.tmp y) = .int .i64 (m:Int):=hy
 have h3:=q7j (P:=P) (w:=w) (A:=A) (len:=n) (cap:=c) (lo:=none) (hi:=some (.int .i64 (m:Int))) (mx:=none) (l:=0) (h:=m) (m:=c) ht hsz (.inl ⟨rfl,rfl⟩) (.inr ⟨_,rfl⟩) (.inl ⟨rfl,rfl⟩) (by omega) (by omega) (by omega) (by omega)
 have h4:(if (c:Int).toNat=(0:Int).toNat then A else A.map (·.add ((0:Int).toNat*sz)))=A:=by
  split
  ·rfl
  ·cases A<;>simp[Addr.add_lit]<;>rfl
 rw[h4]at h3
 simp only[execOp,h1,h2,Option.map_none,Option.map_some,Sem.run_bind,h3]
 simp
end Go.Ev
namespace Go.Ev
open Go.RowKit (Below)
variable {P:Program} {Γ Γ':Ctx} {w w':World} {σ σ':qf} {e e':Env} {a a':Act} {av:AV} {N:Nat}
theorem qalh {o:Oper} {t tn:TypeId} (h:o.op = .call ⟨.builtin .append,#[.tmp 34,.tmp 39],#[t,tn]⟩) {u v:Value} (hu:a.tmps.getD 34 undef=u) (hv:a.tmps.getD 39 undef=v) :
  (execOp a.eval o).run P w=((Builtin.append_ #[t,tn] o.type #[u,v]).run P w).andThen fun v w => .ok (.value v) w:=by
 obtain⟨dst,op,type,pos,after,guard⟩:=o
 simp only at h
 subst h
 have h1:a.eval (.tmp 34)=u:=hu
 have h2:a.eval (.tmp 39)=v:=hv
 simp[execOp,resolve,invoke,builtin,h1,h2]
theorem qak5 {o:Oper} {f:Nat} {tys:Array TypeId} (h:o.op = .call ⟨.value (.func f),#[.tmp 61,.tmp 66],tys⟩) {u v:Value} (hu:a.tmps.getD 61 undef=u) (hv:a.tmps.getD 66 undef=v) :
  (execOp a.eval o).run P w=(callFunc f #[u,v]).run P w:=by
 obtain⟨dst,op,type,pos,after,guard⟩:=o
 simp only at h
 subst h
 have h1:a.eval (.tmp 61)=u:=hu
 have h2:a.eval (.tmp 66)=v:=hv
 simp[execOp,resolve,Deferred.ofValue,invoke,Act.eval]
 simp[Act.eval]at h1 h2
 simp[h1,h2]
theorem ok_ovl {f sz o g n j:Nat} {tS tR:TypeId} {es:List (List AV)} {x:List AV} {cx:Bool} {u v:Value} (s:SR P Γ σ w)
  (fpre : ((P.funcs[f]?).map fun fn => (fn.name == "runtime.NumGoroutine", fn.body.isNone, (Extern.findNext fn).isNone)) = some (false, true, true))
  (fext:((P.funcs[f]?).bind Extern.find)=some (Extern.SlicesOverlaps.overlaps #[tS,tS] #[tR])) (fel:((qz7 P tS).bind (szT P))=some sz)
  (hu:VR Γ w (.fsl [x] cx) u) (hv:VR Γ w (.sl o g j (n-j) false) v) (hx:x.length=sz) (hs0:0<sz) (hj:j<n) (ho:σ[o]? = some (.row sz es g)) (hle:n≤es.length) :
  (callFunc f #[u,v]).run P w = .ok (.value (.bool false)) w:=by
 obtain⟨el,hel,hsz⟩:=zob.1 fel
 rw[Option.map_eq_some_iff]at fpre
 obtain⟨fn,hf,hpre⟩:=fpre
 simp only[Prod.mk.injEq]at hpre
 obtain⟨p1,p2,p3⟩:=hpre
 rw[hf,wc]at fext
 rw[run_callFunc_extern hf p1 p2 (by simpa using p3) fext]
 obtain⟨inf,hinf,rfl⟩:=qoq hsz
 obtain⟨b,off,sz',cap,rfl,_,_,hok,hpos,hls,hcells⟩:=qqv hu (by simp)
 obtain⟨cap',rfl,_,_,hct,hcells2⟩:=qzq s hv ho (by omega) (by omega)
 have hO:=s.obj o _ ho
 simp only[OR]at hO
 obtain⟨k1,k2,k3,k4,k5,k6⟩:=hO
 have hnn:o<Γ.n:=by rw[←s.len];exact(zei.1 ho).1
 have hctn:(Γ.loc o).ct≠0:=by omega
 obtain⟨arr,et,k7,k8,k9⟩:=k6.resolve_left hctn
 have hne:b≠(Γ.loc o).b:=fun h=>hok.2.1 (h▸s.blk o hnn hctn)
 obtain⟨va,hva⟩ : ∃va,w.cell? ⟨b,off,none⟩=some va:=by
  cases x with
  |nil=>simp at hx;omega
  |cons y ys=>
   simp only[List.flatten_cons,List.cons_append,qi]at hcells
   obtain⟨⟨u,h1,_⟩,_⟩:=hcells
   exact⟨u,by simpa using h1⟩
 rw[q5v (qj5 hel) inf.size (fun w=>by simp[sizeOf,typeInfo,hinf]) ⟨b,off,none⟩ ⟨(Γ.loc o).b,j*inf.size,none⟩ _ _ _ _ hne hva k7]
 rfl
theorem ev_subI {O:Orc} {d x y:Nat} {i j:Nat} (h1:e.get x=some (.v (.int .i64 (i:Int)))) (h2:e.get y=some (.v (.int .i64 (j:Int)))) (hb:i<2^63) (hj:j≤i):qgy O e σ ⟨some d,none,.op (.bin .sub (.t x) (.t y))⟩=some (e.set (some d) (.v (.int .i64 ((i-j:Nat):Int))),σ):=by
 have hw:IntKind.i64.wrap ((i:Int)-(j:Int))=((i-j:Nat):Int):=by rw[IntKind.wrap_i64];omega
 simp[qgy,qae,qdy,Opnd.ev,h1,h2,qn2,hw]
theorem ev_gtrI {O:Orc} {d x y:Nat} {i j:Int} (h1:e.get x=some (.v (.int .i64 i))) (h2:e.get y=some (.v (.int .i64 j))):qgy O e σ ⟨some d,none,.op (.bin .gtr (.t x) (.t y))⟩=some (e.set (some d) (.v (.bool (decide (i>j)))),σ):=by
 simp[qgy,qae,qdy,Opnd.ev,h1,h2,qalw]
theorem q83 (l:List Value) (n:Nat) {i:Nat} {v:Value} (h:l[i]? = some v):(l.toArray++Array.replicate n undef).getD i undef=v:=by
 rw[Array.getD_eq_getD_getElem?,Array.getElem?_append_left (by simpa using (zei.1 h).1)];simp[h]
theorem AR.val {t:Nat} {v:Value} (ha:AR P Γ N e σ a w) (h:e.get t=some (.v v)):a.tmps.getD t undef=v:=by
 have:=ha.ve t _ h
 simpa only[VR]using this
theorem AR.vr {t:Nat} {b:AV} (ha:AR P Γ N e σ a w) (h:e.get t=some b):VR Γ w b (a.tmps.getD t undef):=ha.ve t _ h
theorem ins_ok {k sz bytes f : Nat} {tS tR : TypeId} (hm : P.follows .mixedOrders = true) (hB : InsB P k sz bytes f tS tR) : InsOk P k (insF sz bytes) := by
  intro args σ r τ hF Γ w vs s hv
  unfold insF at hF
  split at hF
  · rename_i o g off n cs j0 x cx
    split at hF
    · rename_i rs es g' ho
      split at hF
      · rename_i hcond
        obtain ⟨rfl, rfl, rfl, hs0, hb0, hn, hj0, hjn, hxok, hok, hfit⟩ := hcond
        cases hF
        obtain ⟨j, rfl⟩ : ∃ j : Nat, j0 = j := ⟨j0.toNat, by omega⟩
        simp only [Int.toNat_natCast] at *
        simp only [VRs] at hv
        obtain ⟨v0, _, rfl, hv0, v1, _, rfl, hv1, v2, _, rfl, hv2, rfl⟩ := hv
        -- the program's side
        have hpre := hB.pre
        rw [Option.map_eq_some_iff] at hpre
        obtain ⟨p, hp, hpre⟩ := hpre
        simp only [Prod.mk.injEq] at hpre
        obtain ⟨hname, hnp, hnt, hres⟩ := hpre
        obtain ⟨h1, h2⟩ := q9d hp
        have get : ∀ {β : Type} {F : InsParts → Option β} {b : β}, (qdt P k).bind F = some b → F p = some b := fun h => by rwa [hp, wc] at h
        have hsz := hB.sizes
        rw [hp] at hsz
        simp only [Option.map_some, Option.some.injEq, Prod.mk.injEq] at hsz
        obtain ⟨z8, z9, z13, z14⟩ := hsz
        have hty := get hB.types
        simp only [qaib, zob] at hty
        obtain ⟨tc, ⟨o30, g30, q30⟩, t34, ⟨o34, g34, q34⟩, ⟨ta, tn⟩, ⟨o40, g40, q40⟩, t60, ⟨o60, g60, q60⟩, f', ⟨o67, g67, q67⟩, elc, ec, e34, ee34, el, eel, e60, ee60, hty⟩ := hty
        split at hty
        · rename_i hty2
          obtain ⟨rfl, s34, sel, bel, zel, s60, itn⟩ := hty2
          obtain ⟨z, hz⟩ := Option.isSome_iff_exists.1 zel
          obtain ⟨kn, hkn⟩ : ∃ kn, P.underlying tn = some (.int kn) := by
            unfold isIntT at itn; split at itn
            · exact ⟨_, ‹_›⟩
            · cases itn
          have hle1 : (n + 1) * 1 ≤ (n + 1) * bytes := Nat.mul_le_mul_left _ hb0
          have hE : ∀ {c : Code} {i j : Nat} {cc : CCode}, qla P {} 95 c i = some (cc, j) → q5n P qyq itL 95 c cc := fun hc => q8i qub qsf q8l itL_ok hm _ hc
          have hos : o < σ.length := (zei.1 ho).1
          rw [show (#[v0, v1, v2] : Array Value) = [v0, v1, v2].toArray from rfl] at *
          rw [q22 h1 hname h2]
          have qx6 : ∀ {τ : qf} {r : AV} {e : Env} {Γ' : Ctx} {a' : Act} {w' : World}, e.marks = [] → AR P Γ' 95 e τ a' w' → e.get 6 = some r → (∀ v, VR Γ' w' r v → Got P Γ w (.sl o (g + 2) 0 (n + 1) false) (σ.set o (.row rs (es.take j ++ (x :: (es.take n).drop j)) (g + 2))) v w') →
              LeavesInM Fence.wide 0 P p.fn a'.tmps (qaky (Got P Γ w (.sl o (g + 2) 0 (n + 1) false) (σ.set o (.row rs (es.take j ++ (x :: (es.take n).drop j)) (g + 2))))) a'.defers .returning w' := by
            intro τ r e Γ' a' w' hmk ha hget hgot
            have hmr := ha.mr
            rw [hmk] at hmr
            simp only [MR] at hmr
            rw [hmr]
            have hrl : p.fn.results.toList = [.tmp 6] := by
              revert hres; unfold isTmp6; split
              · intro _; assumption
              · intro hh; cases hh
            obtain ⟨v, h8, h9⟩ := q4l (N := 95) (cs := [.tmp 6]) (as := [r]) (by rw [hrl]; rfl) ha.sr ha.ve (by simp [qrb, q5j, hget])
            exact ⟨v, h8, hgot v h9⟩
          refine callsIn_of_wp_marks (F := Fence.wide) (n := 0) h1 h2 trivial ?_
          have ha0 : AR P Γ 95 ⟨[(0, .sl o g 0 n cs), (1, .v (.int .i64 (j : Int))), (2, .fsl [x] cx)], []⟩ σ { tmps := [v0, v1, v2].toArray ++ Array.replicate (p.fn.ntmps - 3) undef, defers := [] } w := by
            refine ⟨fun t av ht => ?_, s, by simp [hnt], rfl⟩
            simp only [look] at ht
            split at ht
            · rename_i h0; subst h0; cases ht
              simp only [q83 [v0, v1, v2] _ (i := 0) (v := v0) rfl]; exact hv0
            · split at ht
              · rename_i h0; subst h0; cases ht
                simp only [q83 [v0, v1, v2] _ (i := 1) (v := v1) rfl]; simp only [VR]; exact hv1
              · split at ht
                · rename_i h0; subst h0; cases ht
                  simp only [q83 [v0, v1, v2] _ (i := 2) (v := v2) rfl]; exact hv2
                · cases ht
          -- the first three regions
          refine wpIn_seq (wpIn_mono (hE (get hB.c0) (ro := none) (l := none) (e' := ⟨[(6, .fsl [] true), (0, .sl o g 0 n cs), (1, .v (.int .i64 (j : Int))), (2, .fsl [x] cx)], []⟩) (σ' := σ) (x := .normal) rfl ha0 trivial) ?_)
          rintro ex a1 w1 ⟨rfl, Γ1, x1, ha1⟩
          have ha1 := ha1.keep [0, 1, 2]
          refine wpIn_seq (wpIn_mono (hE (get hB.c1) (ro := none) (l := none) (x := .normal) (q7w (qav (qgi (y := .sl o g 0 n cs) rfl) (qav (qgi (y := .v (.int .i64 (j : Int))) rfl) (qav (qxd (o := o) (g := g) (n := n) (c := cs) (j := j) rfl rfl ho hjn) qn9)))) ha1 trivial) ?_)
          rintro ex a2 w2 ⟨rfl, Γ2, x2, ha2⟩
          have ha2 := ha2.keep [0, 1, 2]
          refine wpIn_seq (wpIn_mono (hE (get hB.c2) (ro := none) (l := none) (e' := ⟨[(7, .v (.int .i64 1)), (14, .v (.int .i64 1)), (13, .fsl [x] cx), (0, .sl o g 0 n cs), (1, .v (.int .i64 (j : Int))), (2, .fsl [x] cx)], []⟩) (σ' := σ) (x := .normal) rfl ha2 trivial) ?_)
          rintro ex a3 w3 ⟨rfl, Γ3, x3, ha3⟩
          have ha3 := ha3.keep [0, 1, 2, 7]
          refine wpIn_seq (wpIn_seq (wpIn_mono (hE (get hB.c3) (ro := none) (l := none) (e' := ⟨[(16, .v (.bool false)), (15, .v (.int .i64 1)), (0, .sl o g 0 n cs), (1, .v (.int .i64 (j : Int))), (2, .fsl [x] cx), (7, .v (.int .i64 1))], []⟩) (σ' := σ) (x := .normal) rfl ha3 trivial) ?_))
          rintro ex a4 w4 ⟨rfl, Γ4, x4, ha4⟩
          refine wpIn_cond_false (ha4.val (t := 16) rfl) (wpIn_skip ?_)
          have ha4 := ha4.keep [0, 1, 2, 7]
          refine wpIn_seq (wpIn_mono (hE (get hB.c5) (ro := none) (l := none) (e' := ⟨[(8, .v (.int .i64 (n : Int))), (19, .v (.int .i64 (n : Int))), (18, .sl o g 0 n cs), (0, .sl o g 0 n cs), (1, .v (.int .i64 (j : Int))), (2, .fsl [x] cx), (7, .v (.int .i64 1))], []⟩) (σ' := σ) (x := .normal) rfl ha4 trivial) ?_)
          rintro ex a5 w5 ⟨rfl, Γ5, x5, ha5⟩
          have ha5 := ha5.keep [0, 1, 2, 7, 8]
          refine wpIn_seq (wpIn_seq (wpIn_mono (hE (get hB.c6) (ro := none) (l := none) (e' := ⟨[(22, .v (.bool (decide ((j : Int) = (n : Int))))), (21, .v (.int .i64 (n : Int))), (20, .v (.int .i64 (j : Int))), (0, .sl o g 0 n cs), (1, .v (.int .i64 (j : Int))), (2, .fsl [x] cx), (7, .v (.int .i64 1)), (8, .v (.int .i64 (n : Int)))], []⟩) (σ' := σ) (x := .normal) (by
            simp [iR6, exec, qah, qgy, qae, qdy, cMv, Opnd.ev, Ev.keep, Env.get, Env.set, look, qam2]) ha5 trivial) ?_))
          rintro ex a6 w6 ⟨rfl, Γ6, x6, ha6⟩
          have x06 := ((((x1.trans x2).trans x3).trans x4).trans x5).trans x6
          refine wpIn_cond (ha6.val (t := 22) rfl) ?_
          by_cases hjeq : j = n
          · subst hjeq
            simp only [decide_true, if_true]
            refine wpIn_mono (hE (get hB.c7) (ro := none) (l := none) (e' := ⟨[(6, .sl o (g + 1) 0 (j + 1) false), (25, .sl o (g + 1) 0 (j + 1) false), (24, .fsl [x] cx), (23, .sl o g 0 j cs), (22, .v (.bool true)), (21, .v (.int .i64 (j : Int))), (20, .v (.int .i64 (j : Int))), (0, .sl o g 0 j cs), (1, .v (.int .i64 (j : Int))), (2, .fsl [x] cx), (7, .v (.int .i64 1)), (8, .v (.int .i64 (j : Int)))], []⟩)
              (σ' := σ.set o (.row rs (es.take j ++ [x]) (g + 1))) (x := .ret) (by
                simp [iA7, exec, qah, qgy, qae, qdy, cMv, Opnd.ev, Env.get, Env.set, look, qdr, q6o, ho, hxok, hn, hs0, hb0, hfit]) ha6 trivial) ?_
            rintro ex a7 w7 ⟨rfl, Γ7, x7, ha7⟩
            refine qx6 rfl ha7 rfl fun v hv => ?_
            have hd : (es.take j).drop j = [] := List.drop_of_length_le (by rw [wb]; omega)
            rw [hd]
            exact ok_bump hos ⟨Γ7, hv, ha7.sr, x06.trans x7⟩
          · have hjl : j < n := by omega
            have hjne : ¬ (j : Int) = (n : Int) := by omega
            simp only [decide_eq_false hjne, Bool.false_eq_true, if_false]
            refine wpIn_skip ?_
            obtain ⟨k30, d30, gd30⟩ := opCap_ok q30
            obtain ⟨k34, d34, gd34⟩ := qaef q34
            obtain ⟨k40, d40, gd40⟩ := opApp_ok q40
            obtain ⟨k60, d60, gd60⟩ := qaef q60
            obtain ⟨⟨tys, k67⟩, d67, gd67⟩ := opOvl_ok q67
            have hsl := ha6.vr (t := 0) (b := .sl o g 0 n cs) rfl
            obtain ⟨A, c, hval, hnc⟩ : ∃ A c, a6.tmps.getD 0 undef = .slice A n c ∧ n ≤ c := by
              have hsl' := hsl
              simp only [VR] at hsl'
              obtain ⟨A, c, q1, q2, _⟩ := hsl'
              exact ⟨A, c, q1, q2⟩
            rw [hval] at hsl
            have hap := (ha6.keep [1, 2, 7, 8]).pin 0
            rw [hval] at hap
            refine wpIn_seq (wpIn_seq (wpIn_region ?_))
            rw [z8, show List.range 6 = [0, 1, 2, 3] ++ (4 :: ([5] ++ [])) from rfl]
            refine q0u [0, 1, 2, 3] (get hB.o8a) (qav (qgi (y := .v (.int .i64 (n : Int))) rfl) (qav (qgi (y := .v (.int .i64 ((1 : Nat) : Int))) rfl) (qav (q3v (i := n) (j := 1) rfl rfl (by omega)) (qav (qgi (y := .v (.slice A n c)) rfl) qn9)))) hap fun Γ7 a7 w7 x7 ha7 => ?_
            rw [wpOpsIn_cons]
            refine q7s (G := fun v w' => v = .int .i64 (c : Int) ∧ w' = w7) g30 (by rw [k30]; intro c hc; cases hc) gd30 (by rw [qamq k30 (qj5 ec) (ha7.val (t := 29) rfl)]; exact ⟨rfl, rfl⟩) ?_
            rintro _ _ ⟨rfl, rfl⟩
            have ha8 := ha7.put (d := o30.dst) (av := .v (.int .i64 (c : Int))) (v := .int .i64 (c : Int)) (by rw [d30]; rfl) (by simp only [VR]) ha7.sr (Ext.refl _ _)
            rw [d30] at ha8 ⊢
            refine q0u [5] (get hB.o8b) (qav (ev_gtrI (i := ((n + 1 : Nat) : Int)) (j := (c : Int)) rfl rfl) qn9) ha8 fun Γ9 a9 w9 x9 ha9 => ?_
            simp only [wpOpsIn]
            refine wpIn_cond (ha9.val (t := 31) rfl) ?_
            have x09 := (x06.trans x7).trans x9
            have hsl9 := VR.mono (x7.trans x9) _ _ hsl
            by_cases hcap : n + 1 ≤ c
            · have hd : decide (((n + 1 : Nat) : Int) > (c : Int)) = false := by simp; omega
              simp only [hd, Bool.false_eq_true, if_false]
              refine wpIn_skip ?_
              refine wpIn_seq (wpIn_region ?_)
              rw [z13, show List.range 6 = [0, 1, 2, 3] ++ (4 :: ([5] ++ [])) from rfl]
              refine q0u [0, 1, 2, 3] (get hB.o13a) (qav (qgi (y := .v (.slice A n c)) rfl) (qav (qgi (y := .v (.int .i64 (n : Int))) rfl) (qav (qgi (y := .v (.int .i64 ((1 : Nat) : Int))) rfl) (qav (q3v (i := n) (j := 1) rfl rfl (by omega)) qn9)))) ha9 fun Γ10 a10 w10 x10 ha10 => ?_
              rw [wpOpsIn_cons]
              refine q7s (G := fun v w' => v = .slice A (n + 1) c ∧ w' = w10) g60 (by rw [k60]; intro c hc; cases hc) gd60 (by rw [qaax k60 (qj5 ee60) s60 (ha10.val (t := 56) rfl) (ha10.val (t := 59) rfl) hcap]; exact ⟨rfl, rfl⟩) ?_
              rintro _ _ ⟨rfl, rfl⟩
              obtain ⟨Γ11, y, hyl, s11, x11, hv11⟩ := qajp ha10.sr (VR.mono x10 _ _ hsl9) ho hn hcap
              have ha11 := ha10.put (d := o60.dst) (av := .sl o (g + 2) 0 (n + 1) false) (by rw [d60]; rfl) hv11 s11 x11
              rw [d60] at ha11 ⊢
              refine q0u [5] (get hB.o13b) (qav (qgi (y := .sl o (g + 2) 0 (n + 1) false) rfl) qn9) ha11 fun Γ12 a12 w12 x12 ha12 => ?_
              simp only [wpOpsIn]
              have ha12 := ha12.keep [0, 1, 2, 7]
              refine wpIn_seq (wpIn_seq (wpIn_region ?_))
              have hob : (σ.set o (.row rs (es.take n ++ [y]) (g + 2)))[o]? = some (.row rs (es.take n ++ [y]) (g + 2)) := by simp [hos]
              have hEl : (es.take n ++ [y]).length = n + 1 := by simp; omega
              rw [z14, show List.range 8 = [0, 1, 2, 3, 4, 5] ++ (6 :: ([7] ++ [])) from rfl]
              refine q0u [0, 1, 2, 3, 4, 5] (get hB.o14a) (qav (qgi (y := .fsl [x] cx) rfl) (qav (qgi (y := .sl o (g + 2) 0 (n + 1) false) rfl) (qav (qgi (y := .v (.int .i64 (j : Int))) rfl) (qav (qgi (y := .v (.int .i64 ((1 : Nat) : Int))) rfl) (qav (q3v (i := j) (j := 1) rfl rfl (by omega))
                (qav (qxd (o := o) (g := g + 2) (n := n + 1) (c := false) (j := j + 1) rfl rfl hob (by omega)) qn9)))))) ha12 fun Γ13 a13 w13 x13 ha13 => ?_
              rw [wpOpsIn_cons]
              have hovl := ok_ovl (n := n + 1) (j := j + 1) ha13.sr hB.fpre hB.fext hB.fel (ha13.vr (t := 61) (b := .fsl [x] cx) rfl) (ha13.vr (t := 66) (b := .sl o (g + 2) (j + 1) (n + 1 - (j + 1)) false) rfl) (qg8 hxok x (by simp)) hs0 (by omega) hob (by omega)
              refine q7s (G := fun v w' => v = .bool false ∧ w' = w13) g67 (by rw [k67]; intro c hc; cases hc) gd67 (by rw [qak5 k67 rfl rfl, hovl]; exact ⟨rfl, rfl⟩) ?_
              rintro _ _ ⟨rfl, rfl⟩
              have ha14 := ha13.put (d := o67.dst) (av := .v (.bool false)) (v := .bool false) (by rw [d67]; rfl) (by simp only [VR]) ha13.sr (Ext.refl _ _)
              rw [d67] at ha14 ⊢
              have ha14 := ha14.keep [0, 1, 2, 7, 67]
              refine q0u (e' := ⟨(68, .v (.bool true)) :: [(0, .sl o (g + 2) 0 (n + 1) false), (1, .v (.int .i64 (j : Int))), (2, .fsl [x] cx), (7, .v (.int .i64 1)), (67, .v (.bool false))], []⟩) (σ' := σ.set o (.row rs (es.take n ++ [y]) (g + 2))) [7] (get hB.o14b) rfl ha14 fun Γ15 a15 w15 x15 ha15 => ?_
              simp only [wpOpsIn]
              refine wpIn_cond_true (ha15.val (t := 68) rfl) ?_
              obtain ⟨e', h1', h2', h3'⟩ := exec_A15 (g := g + 2) (y := y) (cx := cx) hos hn hjl hxok hok (by omega) (vars := (68, .v (.bool true)) :: [(0, .sl o (g + 2) 0 (n + 1) false), (1, .v (.int .i64 (j : Int))), (2, .fsl [x] cx), (7, .v (.int .i64 1)), (67, .v (.bool false))]) rfl rfl rfl rfl
              refine wpIn_mono (hE (get hB.c15) (ro := none) (l := none) h1' ha15 trivial) ?_
              rintro ex a16 w16 ⟨rfl, Γ16, x16, ha16⟩
              exact qx6 h2' ha16 h3' fun v hv => ⟨Γ16, hv, ha16.sr, (((((x09.trans x10).trans x11).trans x12).trans x13).trans x15).trans x16⟩
            · have hd : decide (((n + 1 : Nat) : Int) > (c : Int)) = true := by simp; omega
              simp only [hd, if_true]
              refine wpIn_seq (wpIn_region ?_)
              rw [z9, show List.range 10 = [0, 1] ++ (2 :: ([3, 4, 5, 6, 7] ++ (8 :: ([9] ++ [])))) from rfl]
              refine q0u [0, 1] (get hB.o9a) (qav (qgi (y := .v (.slice A n c)) rfl) (qav (qgi (y := .v (.int .i64 (j : Int))) rfl) qn9)) (ha9.keep [0, 1, 2, 7, 8]) fun Γ10 a10 w10 x10 ha10 => ?_
              rw [wpOpsIn_cons]
              refine q7s (G := fun v w' => v = .slice A j c ∧ w' = w10) g34 (by rw [k34]; intro c hc; cases hc) gd34 (by rw [qaax k34 (qj5 ee34) s34 (ha10.val (t := 32) rfl) (ha10.val (t := 33) rfl) (by omega)]; exact ⟨rfl, rfl⟩) ?_
              rintro _ _ ⟨rfl, rfl⟩
              have ha11 := ha10.put (d := o34.dst) (av := .v (.slice A j c)) (v := .slice A j c) (by rw [d34]; rfl) (by simp only [VR]) ha10.sr (Ext.refl _ _)
              rw [d34] at ha11 ⊢
              refine q0u [3, 4, 5, 6, 7] (get hB.o9b) (qav (qgi (y := .v (.int .i64 (n : Int))) rfl) (qav (qgi (y := .v (.int .i64 ((1 : Nat) : Int))) rfl) (qav (q3v (i := n) (j := 1) rfl rfl (by omega)) (qav (qgi (y := .v (.int .i64 (j : Int))) rfl)
                (qav (ev_subI (i := n + 1) (j := j) rfl rfl (by omega) (by omega)) qn9))))) ha11 fun Γ12 a12 w12 x12 ha12 => ?_
              rw [wpOpsIn_cons]
              have ha12 := ha12.keep [0, 1, 2, 7, 34, 39]
              obtain ⟨v, w13, Γ13, hrun, hv13, s13, x13, hf13⟩ := ok_grow (o := o) (t := ta) (ty := o40.type) (tn := tn) (kq := .i64) (A := A) (cap := c) (i := j) ha12.sr (VR.mono (x10.trans x12) _ _ hsl9) ho hn hjn (by omega) (qj5 eel) hkn hz sel bel hb0 hs0 hfit
              refine q7s (G := fun v' w' => v' = v ∧ w' = w13) g40 (by rw [k40]; intro c hc; cases hc) gd40 (by rw [qalh k40 (ha12.val (t := 34) rfl) (ha12.val (t := 39) rfl), hrun]; exact ⟨rfl, rfl⟩) ?_
              rintro _ _ ⟨rfl, rfl⟩
              have ha13 := ha12.put (d := o40.dst) (av := .sl o (g + 2) 0 (n + 1) false) (by rw [d40]; rfl) hv13 s13 x13
              rw [d40] at ha13 ⊢
              have ha13 := ha13.unpin (t := 0) (v := .slice A n c) rfl hf13
              refine q0u [9] (get hB.o9c) (qav (qgi (y := .sl o (g + 2) 0 (n + 1) false) rfl) qn9) ha13 fun Γ14 a14 w14 x14 ha14 => ?_
              simp only [wpOpsIn]
              have ha14 := ha14.keep [0, 1, 2, 7, 9]
              obtain ⟨e', h1', h2', h3'⟩ := exec_A10 (g := g + 2) (z := z) (cx := cx) hos hn hjl hxok hok (by omega) (vars := [(0, .fsl (es.take n) false), (1, .v (.int .i64 (j : Int))), (2, .fsl [x] cx), (7, .v (.int .i64 1)), (9, .sl o (g + 2) 0 (n + 1) false)]) rfl rfl rfl rfl rfl
              refine wpIn_mono (hE (get hB.c10) (ro := none) (l := none) h1' ha14 trivial) ?_
              rintro ex a16 w16 ⟨rfl, Γ16, x16, ha16⟩
              exact qx6 h2' ha16 h3' fun v hv => ⟨Γ16, hv, ha16.sr, ((((x09.trans x10).trans x12).trans x13).trans x14).trans x16⟩
        · cases hty
      · cases hF
    · cases hF
  · cases hF
end Go.Ev
