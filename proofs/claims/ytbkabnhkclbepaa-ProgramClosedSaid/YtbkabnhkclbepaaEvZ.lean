/- Part of the proofs about this seat's program (module EvZ). -/
import Derived.Test.YtbkabnhkclbepaaEvY
import Derived.Carry
import Derived.ChangeSame
import Derived.OpenShut
import Derived.Handed
import Derived.RowKit3
import Derived.ChangeAt
set_option linter.unusedSectionVars false
set_option linter.unusedSimpArgs false
set_option linter.unusedVariables false
namespace Go.Ev
open Go.RowKit (Below)
open Go.ChangeShapes Go.WideShapes Go.ChangeAt Go.RowKit
variable {H : Type} {enc : TypeId × Value → H} {P : Program}

theorem Ext.below {w w' : World} {Γ' : Ctx} (x : Ext Ctx.nil Γ' w w') : Below w.heap.size w w' := ⟨x.os, x.tape, x.output, x.size, fun k hk => x.same k hk id⟩
/-- All the arguments read as they did, in a world whose old part is the same. -/
theorem trodAll_stays (hl : laidOutB P = true) {w w' : World} (hb : Below w.heap.size w w') {sp : Nat → Bool} : ∀ {ts : List TypeId} {vs : List Value} {ds : List (DataW H)} {ps : List MemPlace},
    (∀ t ∈ ts, P.readableRec t = true ∧ t < P.types.size) → DataW.TrodAll enc P w 0 (fun _ => true) true ts vs ds ps → (∀ p ∈ ps, p.block < w.heap.size) → (∀ p ∈ ps, sp p.block = true) → DataW.TrodAll enc P w' 0 sp true ts vs ds ps
  | [], [], [], ps, _, h, _, _ => h
  | t :: ts, v :: vs, d :: ds, ps, ht, ⟨p, q, h1, h2, e⟩, hlt, hs => by
    subst e
    obtain ⟨r1, r2⟩ := ht t (by simp)
    exact ⟨p, q, WideElems.Trod_stays hl r1 r2 h1 (fun x hx => hb.same (hlt x (List.mem_append_left _ hx))) (fun x hx => hs x (List.mem_append_left _ hx)),
      trodAll_stays hl hb (fun u hu => ht u (by simp [hu])) h2 (fun x hx => hlt x (List.mem_append_right _ hx)) (fun x hx => hs x (List.mem_append_right _ hx)), rfl⟩
  | [], _ :: _, _, _, _, h, _, _ => h.elim
  | [], [], _ :: _, _, _, h, _, _ => h.elim
  | _ :: _, [], _, _, _, h, _, _ => h.elim
  | _ :: _, _ :: _, [], _, _, h, _, _ => h.elim
theorem frz_bool {σ : Store} {d : Nat} {a : AV} {b : Bool} : frz σ (d + 1) a = some (.v (.bool b)) → a = .v (.bool b) := by
  intro h
  simp only [frz] at h
  split at h
  · cases h; rfl
  · cases a with
    | v x => cases h; rfl
    | sl o g off len c =>
      simp only at h
      split at h
      · split at h
        · rw [Option.bind_eq_some_iff] at h; obtain ⟨_, _, h⟩ := h; cases h
        · cases h
      · cases h
    | ptr o g i off =>
      simp only at h
      split at h
      · split at h
        · rw [Option.bind_eq_some_iff] at h; obtain ⟨_, _, h⟩ := h
          rw [Option.bind_eq_some_iff] at h; obtain ⟨_, _, h⟩ := h; cases h
        · cases h
      · cases h
    | agg cs => simp only [Option.bind_eq_some_iff] at h; obtain ⟨_, _, h⟩ := h; cases h
    | tup cs => simp only [Option.bind_eq_some_iff] at h; obtain ⟨_, _, h⟩ := h; cases h
    | fsl es c => simp only [Option.bind_eq_some_iff] at h; obtain ⟨_, _, h⟩ := h; cases h
    | fptr cs => simp only [Option.bind_eq_some_iff] at h; obtain ⟨_, _, h⟩ := h; cases h
    | fn f a b => simp only [Option.bind_eq_some_iff] at h; obtain ⟨_, _, _, _, h⟩ := h; cases h
    | yld o => cases h
    | mp o => cases h
/-- **A CALL THAT THE EVALUATOR ANSWERS WITH A BOOL.** -/
theorem calls_bool {T : Tab} (hT : TabOk P T) {f : Nat} {cf : CFunc} (hc : T.code f = some cf) {as : List AV} {b : Bool} (h : callZ (evL T) f as = some (.v (.bool b))) {W : World} {args : Array Value} (hv : VRs Ctx.nil W as args.toList) :
    Calls P f args W fun e W' => e = .returned (.bool b) ∧ Below W.heap.size W W' := by
  unfold callZ at h
  rw [Option.bind_eq_some_iff] at h
  obtain ⟨⟨r, σ⟩, h1, h2⟩ := h
  obtain rfl := frz_bool (d := 5) h2
  have hn := evL_ok hT f as [] _ σ h1 Ctx.nil W args.toList (SR.nil P W) hv
  rw [Array.toArray_toList, hT.enter hc] at hn
  refine (callsIn_wide.1 hn).mono fun e W' he => ?_
  cases e with
  | returned v =>
    obtain ⟨Γ', k1, _, k3⟩ := he
    simp only [VR] at k1
    exact ⟨by rw [k1], k3.below⟩
  | panicked _ => exact he.elim
  | outgrown => exact he.elim
/-- **WHAT A LAW'S ROW ASKS BEHIND THE CALL.** -/
theorem post_of_true {f : Func} {s : ChangeSpec} {apart fresh handsOn again : Bool} {W W' : World} {args : Array Value} {ds gs : List (DataW H)} {before : List MemPlace} {tb : TypeId}
    (hvars : s.vars = []) (hspec : s.fn H (ds ++ gs) = { results := [.lit (.bool true)], args := ds }) (hr : f.resultTypes = #[tb]) (htb : P.underlying tb = some .bool) (hl : laidOutB P = true)
    (hts : ∀ t ∈ f.params.toList, P.readableRec t = true ∧ t < P.types.size)
    (hW : DataW.Whole enc P f.params.toList s.vars apart W args.toList ds gs before) (hb : Below W.heap.size W W') : s.post enc P f apart fresh handsOn again W args (.bool true) W' := by
  have hlt := hW.lt
  have hW' := hW
  obtain ⟨p, q, hA, hV, rfl, hz, hnd⟩ := hW
  rw [hvars] at hV
  obtain ⟨rfl, rfl⟩ := trodVars_none hV
  have hargs : ∀ sp : Nat → Bool, (∀ x ∈ p, sp x.block = true) → DataW.TrodAll enc P W' 0 sp true f.params.toList args.toList ds p := fun sp hs => trodAll_stays hl hb hts hA (fun x hx => hlt x (by simp [hx])) hs
  have hres : ∀ (bb : Nat) (sp : Nat → Bool) (hd : Bool), DataW.TrodAll enc P W' bb sp hd f.resultTypes.toList ((Value.bool true).resultList f.resultTypes.size) [.lit (.bool true)] [] := fun bb sp hd => by
    rw [hr]
    exact trodAll_mk1 (shut_bool htb true)
  refine ⟨ds, [], p ++ [], [], p, [], hW', ?_, ?_, ?_, hb.frame _, fun _ => ⟨?_, ?_⟩⟩
  · rw [hspec]; exact hres _ _ _
  · rw [hspec]; exact hargs _ fun x hx => by simpa using hlt x (by simp [hx])
  · rw [hspec, hvars]; rfl
  · exact ok_one hr rfl (okWide_bool_mk htb true)
  · refine ⟨[.lit (.bool true)] ++ ds, [], ([] ++ p) ++ [], ⟨[] ++ p, [], trodAll_append (hargs _ (fun _ _ => rfl)) (hres _ _ _), by rw [hvars]; rfl, rfl, ?_, ?_⟩, ?_⟩
    · intro b off hp
      have hp' : MemPlace.cell b off ∈ p := by simpa using hp
      have hblt : b < W.heap.size := hlt (.cell b off) (by simp [hp'])
      rw [hb.frozen (p := ⟨b, off, none⟩) hblt]
      exact hz b off (by simp [hp'])
    · intro ha
      simpa using hnd ha
    · intro x hx _
      simpa using hx
end Go.Ev
