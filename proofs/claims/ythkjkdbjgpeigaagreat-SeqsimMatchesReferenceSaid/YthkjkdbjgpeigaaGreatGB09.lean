/- For every input the statement of this claim returns true: texts of its proof, joined (part 10). -/
import Derived.Test.YthkjkdbjgpeigaaGreatGB05
import Derived.Test.YthkjkdbjgpeigaaGreatGB06
import Derived.Test.YthkjkdbjgpeigaaGreatGB07
import Derived.Test.YthkjkdbjgpeigaaGreatGB08
set_option linter.unusedSectionVars false
set_option linter.unusedSimpArgs false
set_option linter.unusedVariables false
namespace Go.Proofs.YthkjkdbjgpeigaaGreat.K
open Go.Ev
set_option maxRecDepth 10000
theorem q74 (k : List Int) (x : Evt) (hk : k.length ≤ 9223372036854775807) (hx : x.key.length ≤ 9223372036854775807) :
    (evL T).call qbl [(.fsl ((k).map qcm) false), .fptr x.r] [] = some ((bb (decide (k = x.key))), []) := by
  have h := qs5 k x.key false false hk hx
  rw [qs qmi ql6]
  simp only [qe1, h, Evt.r, qar, qm, Ev.exec, qb, qe, qc, qaw, qag, Ev.evs, Ev.Opnd.ev, Ev.Env.get, Ev.Env.set, Ev.look, qn, qh, qab, ql, qx, qae, Ev.kill, qad, qd, qay, qw, qj, qk, ↓qq, ↓reduceIte, List.length_cons, List.length_nil, zfe, List.drop_succ_cons, List.drop_zero, List.head?_cons, Nat.reduceAdd, Nat.reduceEqDiff, reduceCtorEq, zfc, zfa, and_self, zfd, eq_self]
section
variable (G : List (List Int)) (c : Bool) (x : Evt)
theorem q7k (hG : G.length ≤ 1000) (hk : ∀ k ∈ G, k.length ≤ 9223372036854775807) (hx : x.key.length ≤ 9223372036854775807) :
    ∃ y, itB (exec (evL T) itL none qdi) (qr [0, 1, 7, 8] true 0) ⟨[(0, (.fsl ((G).map qfe) c)), (1, .fn (.func qbl) [] [.fptr x.r]), (7, (ii G.length)), (8, (ii 0))], []⟩ [] = some y ∧
      (G.all (fun k => !decide (k = x.key)) = true ∧ (y.1 = .exit 0 ∧ y.2.1.marks = [] ∧ y.2.2 = []) ∨
      G.all (fun k => !decide (k = x.key)) = false ∧ ∃ z, G.find? (fun k => !(!decide (k = x.key))) = some z ∧ (y.1 = .ret ∧ y.2.1.marks = [] ∧ y.2.2 = [] ∧ ∃ i : Nat, Ev.look y.2.1.vars 4 = some (ii i))) := by
  have hr : los 0 x.r = true := q75 0 x
  refine qfd G (fun i => ⟨[(0, (.fsl ((G).map qfe) c)), (1, .fn (.func qbl) [] [.fptr x.r]), (7, (ii G.length)), (8, (ii i))], []⟩) [] (fun k => !decide (k = x.key)) _ (fun _ y => _) ?_ ?_ ?_
  · intro i z hi hz hp
    have hi' : (i : Int) < (G.length : Int) := by omega
    have hw : IntKind.i64.wrap ((i : Int) + 1) = ((i + 1 : Nat) : Int) := by rw [qao (by omega) (by omega)]; simp
    have he := q74 z x (hk z (List.mem_of_getElem? hz)) hx
    simp only [Bool.not_eq_true', decide_eq_false_iff_not] at hp
    simp only [hp, decide_false] at he
    simp only [qdi, Int.natCast_nonneg, Int.toNat_natCast, List.getElem?_map, Option.map_some, hz, hi', hw, he, hr, qfe, qbq, Ev.exec, qb, qe, qc, qii, qag, Ev.evs, Ev.Opnd.ev, Ev.Env.get, Ev.Env.set, Ev.look, qh, qab, qaj, qo, qr, Ev.keep, qai, qy, qd, qay, qw, qdk, qdj, qj, qk, ↓qq, Ev.it1, ↓reduceIte, List.length_cons, List.length_nil, zfe, List.cons_append, List.nil_append, List.head?_cons, Nat.reduceEqDiff, reduceCtorEq, decide_true, zfc, zfa, and_self, zfd, eq_self]
  · intro i z hi hz hp
    have hi' : (i : Int) < (G.length : Int) := by omega
    have he := q74 z x (hk z (List.mem_of_getElem? hz)) hx
    simp only [Bool.not_eq_false', decide_eq_true_eq] at hp
    simp only [hp, decide_true] at he
    simp only [qdi, Int.natCast_nonneg, Int.toNat_natCast, List.getElem?_map, Option.map_some, hz, hi', hp, he, qfe, Ev.exec, qb, qe, qc, qii, qag, Ev.evs, Ev.Opnd.ev, Ev.Env.get, Ev.Env.set, Ev.look, qh, qab, qo, ↓qq, Ev.it1, ↓reduceIte, List.length_cons, List.length_nil, List.cons_append, List.nil_append, List.head?_cons, Nat.reduceEqDiff, reduceCtorEq, decide_true, zfa, zfd, eq_self]
    exact ⟨_, rfl, rfl, rfl, rfl, i, rfl⟩
  · simp only [qdi, Int.lt_irrefl, Ev.exec, qb, qe, qc, qag, Ev.Opnd.ev, Ev.Env.get, Ev.Env.set, Ev.look, qo, ↓qq, Ev.it1, ↓reduceIte, Nat.reduceEqDiff, reduceCtorEq, decide_false, zfa, eq_self]
    exact ⟨_, rfl, rfl, rfl, rfl⟩
theorem qaar : qda G x = G.all (fun k => !decide (k = x.key)) := by
  unfold qda
  induction G with
  | nil => rfl
  | cons a G ih => rw [List.any_cons, List.all_cons, Bool.not_or, ih]
theorem gone_ev (hG : G.length ≤ 1000) (hk : ∀ k ∈ G, k.length ≤ 9223372036854775807) (hx : x.key.length ≤ 9223372036854775807) :
    qaz (evL T) qcj [(.fsl ((G).map qfe) c), .fn (.func qbl) [] [.fptr x.r]] = some (bb (!qda G x)) := by
  have hr : los 0 x.r = true := q75 0 x
  have hI : ∃ i : Int, qaz (evL T) qc3 [(.fsl ((G).map qfe) c), .fn (.func qbl) [] [.fptr x.r]] = some (ii i) ∧ (decide (i ≥ 0) = !qda G x) := by
    rw [qaar]
    obtain ⟨⟨y, e, σ⟩, k1, k2⟩ := q7k G c x hG hk hx
    simp only at k2
    rw [qaz, qs qmh ql7]
    rcases k2 with ⟨k3, rfl, k4, rfl⟩ | ⟨k3, z, _, rfl, k4, rfl, i, k5⟩
    · refine ⟨-1, ?_, by rw [k3]; rfl⟩
      simp only [qdv, k1, k4, hr, qbq, qm, Ev.exec, qb, qe, qc, qag, Ev.Opnd.ev, Ev.Env.get, Ev.Env.set, Ev.look, qn, ql, qx, qae, Ev.kill, qad, qr, Ev.keep, qai, qy, qd, qay, qw, qdk, qdj, qj, qk, qah, List.length_map, ↓qq, ↓qak, ↓reduceIte, List.length_cons, List.length_nil, zfe, Nat.reduceAdd, Nat.reduceEqDiff, Int.reduceNeg, reduceCtorEq, zfc, and_self, zfd, eq_self]
    · refine ⟨i, ?_, by rw [k3]; simp⟩
      simp only [qdv, k1, k4, k5, hr, qbq, qm, Ev.exec, qb, qe, qc, qag, Ev.Opnd.ev, Ev.Env.get, Ev.Env.set, Ev.look, qn, ql, qx, qae, Ev.kill, qad, qr, Ev.keep, qai, qy, qd, qay, qw, qdk, qdj, qj, qk, qah, List.length_map, ↓qq, ↓qak, ↓reduceIte, List.length_cons, List.length_nil, zfe, Nat.reduceAdd, Nat.reduceEqDiff, Int.reduceNeg, reduceCtorEq, zfc, and_self, zfd, eq_self]
  obtain ⟨i, h1, h2⟩ := hI
  rw [qaz, qs qln qld]
  simp only [qed, h1, h2, hr, qbq, qm, Ev.exec, qb, qe, qc, qaw, qag, Ev.evs, Ev.Opnd.ev, Ev.Env.get, Ev.Env.set, Ev.look, qn, qb5, ql, qx, qae, Ev.kill, qad, qd, qay, qw, qdk, qdj, qj, qk, qah, ↓qq, ↓reduceIte, List.length_cons, List.length_nil, zfe, Nat.reduceAdd, Nat.reduceEqDiff, reduceCtorEq, zfc, and_self, zfd, eq_self]
theorem q8p (σ : qaa) (p : Nat) (hp : σ[p]? = some (.row 1 [[(.fsl ((G).map qfe) false)]] 1)) (hG : G.length ≤ 1000) (hk : ∀ k ∈ G, k.length ≤ 9223372036854775807) (hx : x.key.length ≤ 9223372036854775807) :
    (evL T).call qa0 [(.agg [(ii x.time), (.fsl ((x.key).map qcm) false), (ii x.lp), (ii x.kind), (ii x.proc), (ii x.arg)]), .ptr p 1 0 0] σ = some ((bb (!qda G x)), σ) := by
  have h := gone_ev G false x hG hk hx
  simp only [Evt.r] at h
  rw [qs qnc qmv]
  simp only [qfi, h, hp, qbq, qar, ite_self, qm, Ev.exec, qb, qe, qc, qaw, qag, Ev.evs, Ev.Opnd.ev, Ev.Env.get, Ev.Env.set, Ev.look, qn, qh, qab, Ev.AV.cells, qv, Ev.AV.plain, ql, qx, qae, Ev.kill, qad, qay, qw, qdk, qdj, qj, qk, List.take_length, ↓qq, ↓reduceIte, List.length_cons, List.length_nil, List.getElem?_cons_zero, List.drop_zero, List.head?_cons, Nat.reduceAdd, Nat.reduceEqDiff, reduceCtorEq, zfc, zfa, and_self, true_and, ne_eq, zfb, zff, zfd, eq_self]
end
set_option maxRecDepth 10000
structure GoneAt (σ : qaa) (p : Nat) (G : List (List Int)) : Prop where
  at_ : σ[p]? = some (.row 1 [[(.fsl ((G).map qfe) false)]] 1)
  len : G.length ≤ 1000
  key : ∀ k ∈ G, k.length ≤ 9223372036854775807
section
variable (σ : qaa) (p o g : Nat) (G : List (List Int)) (D : List Evt)
theorem q86 (H : GoneAt σ p G) (hl : qd σ.length σ = true) (hp : p < σ.length) (ho : σ[o]? = some (.row 6 (D.map Evt.r) g)) (hol : o < σ.length) (hD : D.length ≤ 1000000) (hk : ∀ x ∈ D, x.key.length ≤ 9223372036854775807) :
    ∃ y, itB (exec (evL T) itL none qbb) (qr [0, 1, 7, 8] true σ.length) ⟨[(0, .sl o g 0 D.length false), (1, (.fn (.func qa0) [] [.ptr p 1 0 0])), (7, (ii D.length)), (8, (ii 0))], []⟩ σ = some y ∧
      ((D.all (qda G) = true ∧ (y.1 = .exit 0 ∧ y.2.1.marks = [] ∧ y.2.2 = σ)) ∨
      ∃ (i : Nat) (z : Evt), D[i]? = some z ∧ qda G z = false ∧ (D.take i).all (qda G) = true ∧ y.1 = .ret ∧ y.2.1.marks = [] ∧ y.2.2 = σ ∧ Ev.look y.2.1.vars 4 = some (ii i)) := by
  have tl : List.take σ.length σ = σ := List.take_length
  have key := qhi (f := exec (evL T) itL none qbb) (s := qr [0, 1, 7, 8] true σ.length) (α := Unit)
    (fun i _ => ⟨[(0, .sl o g 0 D.length false), (1, (.fn (.func qa0) [] [.ptr p 1 0 0])), (7, (ii D.length)), (8, (ii i))], []⟩) (fun i _ => σ)
    (fun i _ => (D.take i).all (qda G) = true) D.length
    (fun y => ((D.all (qda G) = true ∧ (y.1 = .exit 0 ∧ y.2.1.marks = [] ∧ y.2.2 = σ)) ∨
      ∃ (i : Nat) (z : Evt), D[i]? = some z ∧ qda G z = false ∧ (D.take i).all (qda G) = true ∧ y.1 = .ret ∧ y.2.1.marks = [] ∧ y.2.2 = σ ∧ Ev.look y.2.1.vars 4 = some (ii i))) ?_ ?_ 0 () (Nat.zero_le _) (by simp)
  · exact key
  · rintro i _ hi hall
    obtain ⟨z, hz⟩ : ∃ x, D[i]? = some x := ⟨_, List.getElem?_eq_getElem hi⟩
    have hi' : (i : Int) < (D.length : Int) := by omega
    have hw : IntKind.i64.wrap ((i : Int) + 1) = ((i + 1 : Nat) : Int) := by rw [qao (by omega) (by omega)]; simp
    have he := q8p G z σ p H.at_ H.len H.key (hk z (List.mem_of_getElem? hz))
    cases hb : qda G z with
    | true =>
      rw [hb] at he
      refine .inl ⟨(), ?_, by rw [qea hz, List.all_append, hall]; simp [hb]⟩
      simp only [qbb, Int.natCast_nonneg, Int.toNat_natCast, List.getElem?_map, Option.map_some, ho, hz, hi, hi', hw, he, hl, tl, hp, hol, Evt.r, Ev.exec, qb, qe, qc, qii, qag, Ev.evs, Ev.Opnd.ev, Ev.Env.get, Ev.Env.set, Ev.look, qh, qab, qaj, qo, qr, Ev.keep, qai, qy, qay, qb2, qlg, qdj, qj, qk, ↓qq, Ev.it1, ↓reduceIte, List.length_cons, List.length_nil, List.take_succ_cons, zfe, List.drop_zero, List.cons_append, List.nil_append, Nat.reduceAdd, Nat.reduceEqDiff, reduceCtorEq, decide_true, zfc, Bool.not_true, zfa, and_self, zfd, Nat.le_refl, eq_self]
    | false =>
      rw [hb] at he
      right
      simp only [qbb, Int.natCast_nonneg, Int.toNat_natCast, List.getElem?_map, Option.map_some, ho, hz, hi, hi', he, Evt.r, Ev.exec, qb, qe, qc, qii, qag, Ev.evs, Ev.Opnd.ev, Ev.Env.get, Ev.Env.set, Ev.look, qh, qab, qo, ↓qq, Ev.it1, ↓reduceIte, List.length_cons, List.length_nil, List.take_succ_cons, zfe, List.drop_zero, List.cons_append, List.nil_append, Nat.reduceAdd, Nat.reduceEqDiff, reduceCtorEq, decide_true, Bool.not_false, and_self, zfd, Nat.le_refl, eq_self]
      exact ⟨_, rfl, .inr ⟨i, z, hz, hb, hall, rfl, rfl, rfl, rfl⟩⟩
  · rintro _ hall
    rw [List.take_length] at hall
    simp only [qbb, Int.lt_irrefl, Ev.exec, qb, qe, qc, qag, Ev.Opnd.ev, Ev.Env.get, Ev.Env.set, Ev.look, qo, ↓qq, Ev.it1, ↓reduceIte, Nat.reduceEqDiff, reduceCtorEq, decide_false, zfa, eq_self]
    exact ⟨_, rfl, .inl ⟨hall, rfl, rfl, rfl⟩⟩
theorem q6l (H : GoneAt σ p G) (hl : qd σ.length σ = true) (hp : p < σ.length) (ho : σ[o]? = some (.row 6 (D.map Evt.r) g)) (hol : o < σ.length) (hD : D.length ≤ 1000000) (hk : ∀ x ∈ D, x.key.length ≤ 9223372036854775807) :
    ∃ i : Int, (evL T).call qbj [.sl o g 0 D.length false, (.fn (.func qa0) [] [.ptr p 1 0 0])] σ = some ((ii i), σ) ∧
      (i = -1 ∧ D.all (qda G) = true ∨ ∃ (j : Nat) (z : Evt), i = j ∧ D[j]? = some z ∧ qda G z = false ∧ (D.take j).all (qda G) = true) := by
  have tl : List.take σ.length σ = σ := List.take_length
  obtain ⟨⟨y, e, τ⟩, k1, k2⟩ := q86 σ p o g G D H hl hp ho hol hD hk
  simp only at k2
  rw [qs qia qh2]
  rcases k2 with ⟨k3, rfl, k4, rfl⟩ | ⟨j, z, k3, k5, k6, rfl, k4, rfl, k7⟩
  · refine ⟨-1, ?_, .inl ⟨rfl, k3⟩⟩
    simp only [qbv, k1, k4, hl, tl, hp, hol, qm, Ev.exec, qb, qe, qc, qag, Ev.Opnd.ev, Ev.Env.get, Ev.Env.set, Ev.look, qn, ql, qx, qae, Ev.kill, qad, qr, Ev.keep, qai, qy, qay, qb2, qlg, qdj, qj, qk, ↓qq, ↓qak, ↓reduceIte, List.length_cons, List.length_nil, Nat.reduceAdd, Nat.reduceEqDiff, Int.reduceNeg, reduceCtorEq, decide_true, zfc, and_self, zfd, eq_self]
  · refine ⟨j, ?_, .inr ⟨j, z, rfl, k3, k5, k6⟩⟩
    simp only [qbv, k1, k4, k7, hl, tl, hp, hol, qm, Ev.exec, qb, qe, qc, qag, Ev.Opnd.ev, Ev.Env.get, Ev.Env.set, Ev.look, qn, ql, qx, qae, Ev.kill, qad, qr, Ev.keep, qai, qy, qay, qb2, qlg, qdj, qj, qk, ↓qq, ↓qak, ↓reduceIte, List.length_cons, List.length_nil, Nat.reduceAdd, Nat.reduceEqDiff, Int.reduceNeg, reduceCtorEq, decide_true, zfc, and_self, zfd, eq_self]
def zEvt : Evt := ⟨0, [], 0, 0, 0, 0⟩
theorem zEvt_r : zEvt.r = [(ii 0), .fsl [] false, (ii 0), (ii 0), (ii 0), (ii 0)] := rfl
structure DelInv (G : List (List Int)) (D : List Evt) (j : Nat) (E : List Evt) : Prop where
  len : E.length = D.length
  kept : E.take ((D.take j).filter (qda G)).length = (D.take j).filter (qda G)
  rest : E.drop j = D.drop j
  lt : ((D.take j).filter (qda G)).length < j
theorem DelInv.mem {G : List (List Int)} {D E : List Evt} {j : Nat} (h : DelInv G D j E) (hj : j < D.length) : E[j]? = D[j]? := by
  have := congrArg (fun l => l[0]?) h.rest
  simpa [List.getElem?_drop] using this
theorem DelInv.keep {G : List (List Int)} {D E : List Evt} {j : Nat} {z : Evt} (h : DelInv G D j E) (hz : D[j]? = some z) (hb : qda G z = true) : DelInv G D (j + 1) (E.set ((D.take j).filter (qda G)).length z) := by
  have hlt := (List.getElem?_eq_some_iff.1 hz).1
  have hl := h.lt
  have e1 : (D.take (j + 1)).filter (qda G) = (D.take j).filter (qda G) ++ [z] := by rw [qea hz, List.filter_append]; simp [hb]
  refine ⟨by rw [List.length_set]; exact h.len, ?_, ?_, ?_⟩
  · rw [e1, List.length_append, List.length_singleton, qea (x := z) (by rw [List.getElem?_set_self (by rw [h.len]; omega)]), List.take_set_of_le (Nat.le_refl _), h.kept]
  · rw [List.drop_set_of_lt (by omega)]
    have := congrArg (List.drop 1) h.rest
    rw [List.drop_drop, List.drop_drop] at this
    exact this
  · rw [e1, List.length_append, List.length_singleton]; omega
theorem DelInv.drop {G : List (List Int)} {D E : List Evt} {j : Nat} {z : Evt} (h : DelInv G D j E) (hz : D[j]? = some z) (hb : qda G z = false) : DelInv G D (j + 1) E := by
  have e1 : (D.take (j + 1)).filter (qda G) = (D.take j).filter (qda G) := by rw [qea hz, List.filter_append]; simp [hb]
  refine ⟨h.len, by rw [e1]; exact h.kept, ?_, by rw [e1]; have := h.lt; omega⟩
  have := congrArg (List.drop 1) h.rest
  rw [List.drop_drop, List.drop_drop] at this
  exact this
theorem DelInv.first {G : List (List Int)} {D : List Evt} {j : Nat} {z : Evt} (hz : D[j]? = some z) (hb : qda G z = false) (ha : (D.take j).all (qda G) = true) : DelInv G D (j + 1) D ∧ ((D.take (j + 1)).filter (qda G)).length = j := by
  have hlt := (List.getElem?_eq_some_iff.1 hz).1
  have e0 : (D.take j).filter (qda G) = D.take j := List.filter_eq_self.2 (fun x hx => List.all_eq_true.1 ha x hx)
  have e1 : (D.take (j + 1)).filter (qda G) = D.take j := by rw [qea hz, List.filter_append, e0]; simp [hb]
  have e2 : (D.take j).length = j := by rw [List.length_take]; omega
  exact ⟨⟨rfl, by rw [e1, e2], rfl, by rw [e1, e2]; omega⟩, by rw [e1, e2]⟩
end
set_option maxRecDepth 10000
section
variable (σ : qaa) (p o g n : Nat) (G : List (List Int)) (D : List Evt)
structure Grown (τ : qaa) (n o : Nat) (R : List (List AV)) (g : Nat) : Prop where
  len : τ.length = n
  lt : o < n
  at_ : τ[o]? = some (.row 6 R g)
  lo : qd n τ = true
theorem Grown.new {τ : qaa} {R : List (List AV)} (h : Grown τ n o R g) (x : SObj) : (τ ++ [x])[n]? = some x := by rw [← h.len]; simp
theorem Grown.setNew {τ : qaa} {R : List (List AV)} (h : Grown τ n o R g) (x y : SObj) : (τ ++ [x]).set n y = τ ++ [y] := by rw [← h.len]; simp
theorem Grown.old {τ : qaa} {R : List (List AV)} (h : Grown τ n o R g) (x : SObj) : (τ ++ [x])[o]? = some (.row 6 R g) := by rw [List.getElem?_append_left (by rw [h.len]; exact h.lt)]; exact h.at_
theorem Grown.setOld {τ : qaa} {R : List (List AV)} (h : Grown τ n o R g) (x y : SObj) : (τ ++ [x]).set o y = τ.set o y ++ [x] := by rw [List.set_append, if_pos (by rw [h.len]; exact h.lt)]
theorem Grown.cut {τ : qaa} {R : List (List AV)} (h : Grown τ n o R g) (x : SObj) : (τ ++ [x]).take n = τ := by rw [← h.len]; simp
theorem Grown.cut2 {τ : qaa} {R : List (List AV)} (h : Grown τ n o R g) (x y : SObj) : (τ.set o y ++ [x]).take n = τ.set o y := by
  have e : (τ.set o y).length = n := by rw [List.length_set]; exact h.len
  rw [← e, List.take_left]
theorem Grown.of {τ : qaa} (hn : σ.length = n) (ho : o < n) (hl : qd n σ = true) (E : List Evt) : Grown (σ.set o (.row 6 ((E).map Evt.r) g)) n o (E.map Evt.r) g :=
  ⟨by rw [List.length_set]; exact hn, ho, by rw [List.getElem?_set_self (by omega)], quy hl o (by simp only [SObj.lo, qac])⟩
theorem delete_L (H : GoneAt σ p G) (hn : σ.length = n) (hl : qd n σ = true) (hp : p < n) (hol : o < n) (hpo : ¬ p = o) (hD : D.length ≤ 1000000) (hk : ∀ x ∈ D, x.key.length ≤ 9223372036854775807) :
    ∀ (j : Nat) (E : List Evt), j ≤ D.length → DelInv G D j E →
    ∃ y, itB (exec (evL T) itL none qa9) (qr [0, 1, 5, 6] true n) ⟨[(0, .sl o g 0 D.length false), (1, (.fn (.func qa0) [] [.ptr p 1 0 0])), (5, (ii (((D.take j).filter (qda G)).length))), (6, (ii j))], []⟩ (σ.set o (.row 6 ((E).map Evt.r) g)) = some y ∧
      ∃ E' : List Evt, E'.length = D.length ∧ E'.take (D.filter (qda G)).length = D.filter (qda G) ∧ (D.filter (qda G)).length ≤ D.length ∧ y.1 = .exit 0 ∧ y.2.1.marks = [] ∧ y.2.2 = (σ.set o (.row 6 ((E').map Evt.r) g)) ∧ Ev.look y.2.1.vars 0 = some (.sl o g 0 D.length false) ∧ Ev.look y.2.1.vars 5 = some (ii ((D.filter (qda G)).length)) := by
  refine qhi (f := exec (evL T) itL none qa9) (s := qr [0, 1, 5, 6] true n) (α := List Evt)
    (fun j E => ⟨[(0, .sl o g 0 D.length false), (1, (.fn (.func qa0) [] [.ptr p 1 0 0])), (5, (ii (((D.take j).filter (qda G)).length))), (6, (ii j))], []⟩) (fun j E => (σ.set o (.row 6 ((E).map Evt.r) g)))
    (fun j E => DelInv G D j E) D.length _ ?_ ?_
  · intro j E hj hE
    obtain ⟨z, hz⟩ : ∃ x, D[j]? = some x := ⟨_, List.getElem?_eq_getElem hj⟩
    have hzE := hE.mem hj
    rw [hz] at hzE
    have hj' : (j : Int) < (D.length : Int) := by omega
    have hw : IntKind.i64.wrap ((j : Int) + 1) = ((j + 1 : Nat) : Int) := by rw [qao (by omega) (by omega)]; simp
    obtain ⟨m, hm⟩ : ∃ m, m = ((D.take j).filter (qda G)).length := ⟨_, rfl⟩
    have hml := hE.lt
    rw [← hm] at hml
    have hmD : m < D.length := by omega
    have hwm : IntKind.i64.wrap ((m : Int) + 1) = ((m + 1 : Nat) : Int) := by rw [qao (by omega) (by omega)]; simp
    have gr := Grown.of (τ := (σ.set o (.row 6 ((E).map Evt.r) g))) σ o g n hn hol hl E
    have hpE : (σ.set o (.row 6 ((E).map Evt.r) g))[p]? = some (.row 1 [[(.fsl ((G).map qfe) false)]] 1) := by rw [List.getElem?_set_ne (fun h => hpo h.symm)]; exact H.at_
    have hpEx : ∀ x, ((σ.set o (.row 6 ((E).map Evt.r) g)) ++ [x])[p]? = some (.row 1 [[(.fsl ((G).map qfe) false)]] 1) := fun x => by rw [List.getElem?_append_left (by rw [gr.len]; exact hp)]; exact hpE
    have he := fun x => q8p G z ((σ.set o (.row 6 ((E).map Evt.r) g)) ++ [x]) p (hpEx x) H.len H.key (hk z (List.mem_of_getElem? hz))
    have hEl : E.length = D.length := hE.len
    obtain ⟨w, hem⟩ : ∃ w, E[m]? = some w := ⟨_, List.getElem?_eq_getElem (by omega)⟩
    have gset : ∀ v : Evt, (σ.set o (.row 6 ((E).map Evt.r) g)).set o (.row 6 ((E.map Evt.r).set m v.r) g) = (σ.set o (.row 6 ((E.set m v).map Evt.r) g)) := fun v => by rw [List.set_set, List.map_set]
    have gs := Grown.of (τ := (σ.set o (.row 6 ((E.set m z).map Evt.r) g))) σ o g n hn hol hl (E.set m z)
    have n1 := gr.new; have n2 := gr.setNew; have n3 := gr.old; have n4 := gr.setOld; have n5 := gr.cut; have n6 := gr.cut2; have n7 := gr.lo; have n8 := gr.at_; have n9 := gr.len
    have lo1 := gs.lo
    have cases_ := hE.keep hz
    have cased := hE.drop hz
    rw [← hm] at cases_
    rw [← hm]
    generalize hτ : (σ.set o (.row 6 ((E).map Evt.r) g)) = τ at he n1 n2 n3 n4 n5 n6 n7 n8 n9 gset hpE
    cases hb : qda G z with
    | true =>
      have e1 : ((D.take (j + 1)).filter (qda G)).length = m + 1 := by rw [qea hz, List.filter_append, List.length_append, ← hm]; simp [hb]
      rw [hb] at he
      have gz := gset z
      refine .inl ⟨E.set m z, ?_, cases_ hb⟩
      rw [e1, ← gz]
      rw [← gz] at lo1
      obtain ⟨zt, zk, zl, zi, zp, za⟩ := z
      simp only [Evt.r] at lo1 he ⊢
      simp only [qa9, Int.natCast_nonneg, Int.toNat_natCast, List.getElem?_map, Option.map_some, hzE, hem, hj, hj', hw, hwm, hmD, he, n1, n2, n3, n4, n6, n8, n9, lo1, hp, hol, Evt.r, Ev.exec, qb, qe, qc, qii, qag, Ev.evs, Ev.Opnd.ev, Ev.Env.get, Ev.Env.set, Ev.look, qh, qab, Ev.AV.cells, qv, Ev.AV.plain, qaj, qo, qr, Ev.keep, qai, qy, qay, qb2, qlg, qdj, qj, qk, ↓qq, Ev.it1, ↓reduceIte, List.length_cons, List.length_nil, List.getElem?_cons_zero, List.take_succ_cons, List.take_zero, zfe, List.drop_succ_cons, List.drop_zero, List.drop_nil, List.cons_append, List.nil_append, List.append_nil, List.set_cons_zero, Nat.reduceAdd, Nat.reduceEqDiff, reduceCtorEq, decide_true, zfc, Bool.not_true, Bool.not_false, and_self, ne_eq, zfb, zff, zfd, Nat.le_refl, eq_self]
    | false =>
      have e1 : ((D.take (j + 1)).filter (qda G)).length = m := by rw [qea hz, List.filter_append, List.length_append, ← hm]; simp [hb]
      rw [hb] at he
      refine .inl ⟨E, ?_, cased hb⟩
      rw [e1, hτ]
      obtain ⟨zt, zk, zl, zi, zp, za⟩ := z
      simp only [] at he ⊢
      simp only [qa9, Int.natCast_nonneg, Int.toNat_natCast, List.getElem?_map, Option.map_some, hzE, hj, hj', hw, he, n1, n2, n5, n7, n8, n9, hp, hol, Evt.r, Ev.exec, qb, qe, qc, qii, qag, Ev.evs, Ev.Opnd.ev, Ev.Env.get, Ev.Env.set, Ev.look, qh, qab, Ev.AV.cells, qv, Ev.AV.plain, qaj, qo, qr, Ev.keep, qai, qy, qay, qb2, qlg, qdj, qj, qk, ↓qq, Ev.it1, ↓reduceIte, List.length_cons, List.length_nil, List.getElem?_cons_zero, List.take_succ_cons, List.take_zero, zfe, List.drop_succ_cons, List.drop_zero, List.drop_nil, List.cons_append, List.nil_append, List.append_nil, List.set_cons_zero, Nat.reduceAdd, Nat.reduceEqDiff, reduceCtorEq, decide_true, zfc, Bool.not_true, Bool.not_false, zfa, and_self, ne_eq, zfb, zff, zfd, Nat.le_refl, eq_self]
  · intro E hE
    have hk := hE.kept
    have hle := List.length_filter_le (qda G) D
    rw [List.take_length] at hk
    rw [List.take_length]
    simp only [qa9, Int.lt_irrefl, Ev.exec, qb, qe, qc, qag, Ev.Opnd.ev, Ev.Env.get, Ev.Env.set, Ev.look, qo, ↓qq, Ev.it1, ↓reduceIte, Nat.reduceEqDiff, reduceCtorEq, decide_false, zfa, eq_self]
    exact ⟨_, rfl, E, hE.len, hk, hle, rfl, rfl, rfl, rfl, rfl⟩
theorem qaal (H : GoneAt σ p G) (hn : σ.length = n) (hl : qd n σ = true) (hp : p < n) (hol : o < n) (hpo : ¬ p = o) (ho : σ[o]? = some (.row 6 (D.map Evt.r) g)) (hD : D.length ≤ 1000000) (hk : ∀ x ∈ D, x.key.length ≤ 9223372036854775807) :
    ∃ E : List Evt, (D.filter (qda G)).length ≤ E.length ∧ E.take (D.filter (qda G)).length = D.filter (qda G) ∧
      (evL T).call qbf [.sl o g 0 D.length false, (.fn (.func qa0) [] [.ptr p 1 0 0])] σ = some (.sl o g 0 (D.filter (qda G)).length false, (σ.set o (.row 6 ((E).map Evt.r) g))) := by
  obtain ⟨i, h1, h2⟩ := q6l σ p o g G D H (by rw [hn]; exact hl) (by omega) ho (by omega) hD hk
  have tl : List.take n σ = σ := by rw [← hn]; exact List.take_length
  have hset : σ.set o (.row 6 (D.map Evt.r) g) = σ := by
    obtain ⟨_, hx⟩ := List.getElem?_eq_some_iff.1 ho
    rw [← hx, List.set_getElem_self]
  rw [qs qh4 qhh]
  rcases h2 with ⟨rfl, ha⟩ | ⟨j, z, rfl, hz, hb, ha⟩
  · have e0 : D.filter (qda G) = D := List.filter_eq_self.2 (fun x hx => List.all_eq_true.1 ha x hx)
    refine ⟨D, by rw [e0]; exact Nat.le_refl _, by rw [e0, List.take_length], ?_⟩
    rw [e0, hset]
    simp only [qbr, h1, hl, hn, tl, ite_self, qm, Ev.exec, qb, qe, qc, qd2, qag, Ev.evs, Ev.Opnd.ev, Ev.Env.get, Ev.Env.set, Ev.look, qn, qal, ql, qx, qae, Ev.kill, qad, qb2, ↓qq, ↓reduceIte, List.length_cons, List.length_nil, Nat.reduceAdd, Nat.reduceEqDiff, Int.reduceNeg, reduceCtorEq, decide_true, and_true, zfd, eq_self]
  · have hlt := (List.getElem?_eq_some_iff.1 hz).1
    obtain ⟨d1, d2⟩ := DelInv.first hz hb ha
    obtain ⟨⟨y, e, τ⟩, k1, E, k2, k3, k4, k5, k6, k7, k8, k9⟩ := delete_L σ p o g n G D H hn hl hp hol hpo hD hk (j + 1) D (by omega) d1
    simp only at k5 k6 k7 k8 k9
    rw [d2, hset] at k1
    subst k5; subst k7
    have gr := Grown.of (τ := (σ.set o (.row 6 ((E).map Evt.r) g))) σ o g n hn hol hl E
    have hw : IntKind.i64.wrap ((j : Int) + 1) = ((j + 1 : Nat) : Int) := by rw [qao (by omega) (by omega)]; simp
    have hne : ¬ (j : Int) = -1 := by omega
    obtain ⟨m, hm⟩ : ∃ m, m = (D.filter (qda G)).length := ⟨_, rfl⟩
    rw [← hm] at k3 k4 k9 ⊢
    have c1 : (0 : Int) ≤ (m : Int) := Int.natCast_nonneg _
    have c2 : (m : Int) ≤ (D.length : Int) := by omega
    have c3 : m + (D.length - m) ≤ D.length := by omega
    have hs := gr.at_
    have hlen : (E.map Evt.r).length = D.length := by rw [List.length_map]; exact k2
    have c4 : (0 : Int) ≤ (D.length : Int) := Int.natCast_nonneg _
    have dn : List.drop (m + (D.length - m)) (E.map Evt.r) = [] := List.drop_eq_nil_of_le (by omega)
    have hE2 : (E.map Evt.r).take m ++ List.replicate (D.length - m) zEvt.r = (E.take m ++ List.replicate (D.length - m) zEvt).map Evt.r := by rw [List.map_append, List.map_take, List.map_replicate]
    have n7 := gr.lo; have n9 := gr.len
    refine ⟨E.take m ++ List.replicate (D.length - m) zEvt, by rw [List.length_append, List.length_take, List.length_replicate]; omega, by rw [List.take_append_of_le_length (by rw [List.length_take]; omega), List.take_take, Nat.min_self]; exact k3, ?_⟩
    rw [← hE2]
    have gset : ∀ v : SObj, (σ.set o (.row 6 ((E).map Evt.r) g)).set o v = σ.set o v := fun v => by rw [List.set_set]
    have hss : ∀ v : SObj, (σ.set o v)[o]? = some v := fun v => List.getElem?_set_self (by omega)
    have hts : ∀ v : SObj, (σ.set o v).take n = σ.set o v := fun v => by rw [List.take_of_length_le (by rw [List.length_set]; omega)]
    generalize (σ.set o (.row 6 ((E).map Evt.r) g)) = τ at *
    simp only [zEvt_r]
    simp only [qbr, Int.toNat_natCast, h1, hl, hn, tl, hne, hw, k1, k6, k8, k9, c1, c2, c3, hs, hlen, dn, gset, hss, hts, hp, hol, Int.le_refl, imp_self, Nat.sub_zero, ite_self, qm, Ev.exec, qb, qe, qc, qd2, qag, Ev.evs, Ev.Opnd.ev, Ev.Env.get, Ev.Env.set, Ev.look, qn, qjv, qv, Ev.AV.plain, qaj, qal, ql, qx, qae, Ev.kill, qad, qr, Ev.keep, qai, qy, qay, qb2, qlg, qdj, qj, qk, ↓qq, ↓qak, ↓reduceIte, List.length_cons, List.length_nil, List.append_nil, Nat.reduceAdd, Nat.reduceEqDiff, Int.reduceToNat, Int.reduceNeg, reduceCtorEq, decide_true, decide_false, zfc, Bool.and_true, zfa, and_self, true_and, zfd, Nat.add_zero, Option.isSome_some, Option.isSome_none, eq_self, implies_true, Bool.false_and]
    done
end
set_option maxRecDepth 10000
def qd8 (l : List Evt) : List AV := [(.fsl ((l).map Evt.r) false)]
theorem q7x (n : Nat) (l : List Evt) : los n (qd8 l) = true := by simp only [qd8, los, AV.lo, qac, zfc]
theorem evtsC_pl (l : List Evt) : (qd8 l).length = 1 ∧ qv (qd8 l) = true := ⟨rfl, rfl⟩
theorem qlq (n : Nat) (l : List (List Evt)) : qi0 n (l.map qd8) = true := qk5 (q7x n) l
theorem evss_ok (l : List (List Evt)) : qeh 1 (l.map qd8) = true := qma evtsC_pl l
theorem grow_ev (n : Nat) (h : n ≤ 1000000) : (evL T).call qbi [.fsl [] true, (ii n)] [] =
    if n = 0 then some (.fsl [] true, []) else some (.sl 0 0 0 0 false, [.row 6 ((List.replicate n zEvt).map Evt.r) 0]) := by
  have c1 : ¬ (n : Int) < 0 := by omega
  have w : IntKind.i64.wrap ((n : Int) - ((0 : Nat) : Int)) = n := by rw [qao (by omega) (by omega)]; omega
  have w0 : IntKind.i64.wrap 0 = 0 := rfl
  have w1 : IntKind.i64.wrap ((n : Int) - 0) = n := by rw [qao (by omega) (by omega)]; omega
  have ok := qlv (List.replicate n zEvt)
  rw [List.map_replicate] at ok ⊢
  have b : n * 64 ≤ 140737488355328 := by omega
  rw [qs qjl qi8]
  by_cases h0 : n = 0
  · subst h0
    rw [if_pos rfl]
    simp only [qca, Int.lt_irrefl, w0, Int.sub_zero, gt_iff_lt, qm, Ev.exec, qb, qe, qc, qag, Ev.Opnd.ev, Ev.Env.get, Ev.Env.set, Ev.look, qn, qce, qo, qav, ql, qx, qae, Ev.kill, qad, qd, qw, qaf, ↓qq, ↓reduceIte, List.length_cons, List.length_nil, zfe, Nat.reduceAdd, Nat.reduceEqDiff, Int.cast_ofNat_Int, reduceCtorEq, decide_false, zfa, and_self, zfd, eq_self]
  · have c2 : (n : Int) > 0 := by omega
    rw [if_neg h0]
    simp only [zEvt_r] at ok ⊢
    simp only [qca, Int.toNat_natCast, c1, c2, w0, w1, ok, b, Int.natCast_nonneg, Nat.sub_zero, Int.le_refl, qm, Ev.exec, qb, qe, qc, qag, Ev.Opnd.ev, Ev.Env.get, Ev.Env.set, Ev.look, qn, qjv, qce, qo, qav, ql, qx, qae, Ev.kill, qad, qd, qb2, qcb, ↓qq, ↓reduceIte, List.length_cons, List.length_nil, List.getElem?_cons_zero, List.take_zero, zfe, List.drop_nil, List.nil_append, Nat.reduceAdd, Nat.reduceEqDiff, Nat.reduceLT, Nat.reducePow, Int.reduceSub, Int.reduceToNat, Int.cast_ofNat_Int, reduceCtorEq, decide_true, decide_false, zfc, zfa, and_self, and_true, zfd, Nat.add_zero, Option.isSome_some, Option.isSome_none, eq_self, implies_true, Bool.false_and]
set_option maxRecDepth 10000
section
variable (xs : List (List Evt)) (cl : Bool)
theorem qrd {xs : List (List Evt)} {i : Nat} {x : List Evt} (h : xs[i]? = some x) : (xs.take (i + 1)).flatten = (xs.take i).flatten ++ x := by rw [qea h, List.flatten_append]; simp
theorem q4j (xs : List (List Evt)) (i : Nat) : (xs.take i).flatten.length ≤ xs.flatten.length := by
  have : xs.flatten = (xs.take i).flatten ++ (xs.drop i).flatten := by rw [← List.flatten_append, List.take_append_drop]
  rw [this, List.length_append]; omega
theorem qab4 (hx : xs.length ≤ 1000000) (hT : xs.flatten.length ≤ 1000000) :
    ∃ y, itB (exec (evL T) itL none qbu) (qr [0, 3, 9, 10, 11] true 0) ⟨[(0, (.fsl ((xs).map qd8) cl)), (3, (ii 0)), (9, (.fsl ((xs).map qd8) cl)), (10, (ii xs.length)), (11, (ii 0))], []⟩ [] = some y ∧
      y.1 = .exit 0 ∧ y.2.1.marks = [] ∧ y.2.2 = [] ∧ Ev.look y.2.1.vars 0 = some (.fsl ((xs).map qd8) cl) ∧ Ev.look y.2.1.vars 3 = some (ii xs.flatten.length) := by
  have key := qhi (f := exec (evL T) itL none qbu) (s := qr [0, 3, 9, 10, 11] true 0) (α := Unit)
    (fun i _ => ⟨[(0, (.fsl ((xs).map qd8) cl)), (3, (ii ((xs.take i).flatten.length))), (9, (.fsl ((xs).map qd8) cl)), (10, (ii xs.length)), (11, (ii i))], []⟩) (fun _ _ => [])
    (fun _ _ => True) xs.length (fun y => y.1 = .exit 0 ∧ y.2.1.marks = [] ∧ y.2.2 = [] ∧ Ev.look y.2.1.vars 0 = some (.fsl ((xs).map qd8) cl) ∧ Ev.look y.2.1.vars 3 = some (ii xs.flatten.length)) ?_ ?_ 0 () (Nat.zero_le _) trivial
  · exact key
  · rintro i _ hi _
    obtain ⟨x, hx'⟩ : ∃ x, xs[i]? = some x := ⟨_, List.getElem?_eq_getElem hi⟩
    have hi' : (i : Int) < (xs.length : Int) := by omega
    have hw : IntKind.i64.wrap ((i : Int) + 1) = ((i + 1 : Nat) : Int) := by rw [qao (by omega) (by omega)]; simp
    have h1 := q4j xs (i + 1)
    rw [qrd hx', List.length_append] at h1
    have h2 : IntKind.i64.wrap (((xs.take i).flatten.length : Int) + (x.length : Int)) = (((xs.take i).flatten.length + x.length : Nat) : Int) := qmg (by omega)
    refine .inl ⟨(), ?_, trivial⟩
    rw [qrd hx', List.length_append]
    generalize (xs.take i).flatten.length = m at h2 h1 ⊢
    have h3 : ¬ ((m + x.length : Nat) : Int) < 0 := by omega
    simp only [qbu, Int.natCast_nonneg, Int.toNat_natCast, List.getElem?_map, Option.map_some, hx', hi', hw, h2, h3, qd8, qlq, Ev.exec, qb, qe, qc, qag, Ev.Opnd.ev, Ev.Env.get, Ev.Env.set, Ev.look, qh, qab, qaj, qo, qr, Ev.keep, qai, qy, qd, qay, qw, List.length_map, ↓qq, Ev.it1, ↓reduceIte, List.length_cons, List.length_nil, zfe, List.head?_cons, Nat.reduceEqDiff, reduceCtorEq, decide_true, decide_false, zfc, zfa, and_self, zfd, eq_self]
  · rintro _ _
    simp only [qbu, Int.lt_irrefl, List.take_length, Ev.exec, qb, qe, qc, qag, Ev.Opnd.ev, Ev.Env.get, Ev.Env.set, Ev.look, qo, List.take_length, ↓qq, Ev.it1, ↓reduceIte, Nat.reduceEqDiff, reduceCtorEq, decide_false, zfa, eq_self]
    exact ⟨_, rfl, rfl, rfl, rfl, rfl, rfl⟩
def CInv (xs : List (List Evt)) (i : Nat) (a : AV × qaa) : Prop :=
  (i = 0 ∧ xs.flatten.length = 0 ∧ a = (.fsl [] true, [])) ∨
  ∃ (g : Nat) (W : List Evt), a = (.sl 0 g 0 (xs.take i).flatten.length false, [.row 6 (W.map Evt.r) g]) ∧ (W = (xs.take i).flatten ∨ (xs.take i).flatten = [] ∧ 0 < xs.flatten.length)
theorem qaau (hx : xs.length ≤ 1000000) (hT : xs.flatten.length ≤ 1000000) (a : AV × qaa) (ha : CInv xs 0 a) (n : Nat) :
    ∃ y, itB (exec (evL T) itL none qa5) (qr [6, 25, 26, 27] false n) ⟨[(6, a.1), (25, (.fsl ((xs).map qd8) cl)), (26, (ii xs.length)), (27, (ii 0))], []⟩ a.2 = some y ∧
      ∃ b, CInv xs xs.length b ∧ y.1 = .exit 2 ∧ y.2.1.marks = [] ∧ y.2.2 = b.2 ∧ Ev.look y.2.1.vars 6 = some b.1 := by
  have key := qhi (f := exec (evL T) itL none qa5) (s := qr [6, 25, 26, 27] false n) (α := AV × qaa)
    (fun i a => ⟨[(6, a.1), (25, (.fsl ((xs).map qd8) cl)), (26, (ii xs.length)), (27, (ii i))], []⟩) (fun _ a => a.2)
    (fun i a => CInv xs i a) xs.length (fun y => ∃ b, CInv xs xs.length b ∧ y.1 = .exit 2 ∧ y.2.1.marks = [] ∧ y.2.2 = b.2 ∧ Ev.look y.2.1.vars 6 = some b.1) ?_ ?_ 0 a (Nat.zero_le _) ha
  · exact key
  · rintro i a hi ha
    obtain ⟨x, hx'⟩ : ∃ x, xs[i]? = some x := ⟨_, List.getElem?_eq_getElem hi⟩
    have hi' : (i : Int) < (xs.length : Int) := by omega
    have hw : IntKind.i64.wrap ((i : Int) + 1) = ((i + 1 : Nat) : Int) := by rw [qao (by omega) (by omega)]; simp
    have h1 := q4j xs (i + 1)
    have hfl := qrd hx'
    rw [hfl, List.length_append] at h1
    have ok := qlv x
    rcases ha with ⟨hi0, h0, rfl⟩ | ⟨g, W, rfl, hW⟩
    · have hfi : (xs.take i).flatten = [] := by rw [hi0]; rfl
      have hx0 : x = [] := List.eq_nil_of_length_eq_zero (by omega)
      subst hx0
      refine .inl ⟨(.sl 0 0 0 0 false, [.row 6 [] 0]), ?_, .inr ⟨0, [], ?_, .inl ?_⟩⟩
      · simp only [qa5, Int.natCast_nonneg, Int.toNat_natCast, List.getElem?_map, Option.map_some, hx', hi', hw, qd8, List.map_nil, Nat.zero_mul, Nat.zero_le, Ev.exec, qb, qe, qc, qag, qsn, Ev.Opnd.ev, Ev.Env.get, Ev.Env.set, Ev.look, qh, qc0, qab, qaj, qo, qr, Ev.keep, qcb, ↓qq, Ev.it1, ↓reduceIte, List.length_cons, List.length_nil, List.nil_append, List.append_nil, List.head?_cons, Nat.reduceEqDiff, Nat.reduceLT, Nat.reducePow, decide_true, zfa, and_self, ne_eq, not_true_eq_false, zfd, Nat.add_zero, eq_self, and_false]
      · rw [hfl, hfi]; simp
      · rw [hfl, hfi]; simp
    · by_cases hx0 : x = []
      · subst hx0
        rw [List.append_nil] at hfl
        refine .inl ⟨(.sl 0 g 0 (xs.take i).flatten.length false, [.row 6 (W.map Evt.r) g]), ?_, .inr ⟨g, W, by rw [hfl], by rw [hfl]; exact hW⟩⟩
        have hWl : (xs.take i).flatten.length ≤ W.length := by
          rcases hW with rfl | ⟨h, _⟩
          · exact Nat.le_refl _
          · rw [h]; exact Nat.zero_le _
        have b : (xs.take i).flatten.length * 64 ≤ 140737488355328 := by have := h1; simp at this; omega
        simp only [qa5, Int.natCast_nonneg, Int.toNat_natCast, List.getElem?_map, Option.map_some, hx', hi', hw, qd8, List.map_nil, hWl, b, Ev.exec, qb, qe, qc, qag, qsn, Ev.Opnd.ev, Ev.Env.get, Ev.Env.set, Ev.look, qh, qc0, qab, qaj, qo, qr, Ev.keep, qcb, List.length_map, ↓qq, Ev.it1, ↓reduceIte, List.length_cons, List.length_nil, List.getElem?_cons_zero, List.head?_cons, Nat.reduceEqDiff, Nat.reducePow, decide_true, zfa, and_self, zfd, Nat.add_zero, eq_self]
      · have hWl : (xs.take i).flatten.length ≤ W.length ∧ W.take (xs.take i).flatten.length = (xs.take i).flatten := by
          rcases hW with rfl | ⟨h, _⟩
          · exact ⟨Nat.le_refl _, List.take_length⟩
          · rw [h]; exact ⟨Nat.zero_le _, rfl⟩
        obtain ⟨w1, w2⟩ := hWl
        have hm : x.map Evt.r ≠ [] := by simpa using hx0
        have w3 : (W.map Evt.r).take (xs.take i).flatten.length = ((xs.take i).flatten).map Evt.r := by rw [← List.map_take, w2]
        have b : ((xs.take i).flatten.length + x.length) * 64 ≤ 140737488355328 := by omega
        refine .inl ⟨(.sl 0 (g + 1) 0 ((xs.take i).flatten.length + x.length) false, [.row 6 (((xs.take i).flatten ++ x).map Evt.r) (g + 1)]), ?_, .inr ⟨g + 1, _, by rw [hfl, List.length_append], .inl hfl.symm⟩⟩
        rw [List.map_append]
        generalize (xs.take i).flatten = F at *
        simp only [qa5, Int.natCast_nonneg, Int.toNat_natCast, List.getElem?_map, Option.map_some, hx', hi', hw, qd8, ok, hm, w1, w3, b, Ev.exec, qb, qe, qc, qag, qsn, Ev.Opnd.ev, Ev.Env.get, Ev.Env.set, Ev.look, qh, qc0, qab, qaj, qo, qr, Ev.keep, List.length_map, ↓qq, Ev.it1, ↓reduceIte, List.length_cons, List.length_nil, List.getElem?_cons_zero, List.set_cons_zero, List.head?_cons, Nat.reduceEqDiff, Nat.reducePow, decide_true, zfa, and_self, zfd, eq_self]
  · rintro a ha
    simp only [qa5, Int.lt_irrefl, Ev.exec, qb, qe, qc, qag, Ev.Opnd.ev, Ev.Env.get, Ev.Env.set, Ev.look, qo, ↓qq, Ev.it1, ↓reduceIte, Nat.reduceEqDiff, decide_false, zfa, eq_self]
    exact ⟨_, rfl, a, ha, rfl, rfl, rfl, rfl⟩
theorem q5o (hx : xs.length ≤ 1000000) (hT : xs.flatten.length ≤ 1000000) (hne : xs ≠ []) :
    ∃ g : Nat, (evL T).call qa2 [(.fsl ((xs).map qd8) cl)] [] = some (.sl 0 g 0 xs.flatten.length false, [.row 6 (xs.flatten.map Evt.r) g]) := by
  obtain ⟨⟨y, e, σ⟩, k1, k2, k3, k4, k5, k6⟩ := qab4 xs cl hx hT
  simp only at k1 k2 k3 k4 k5 k6
  subst k2; subst k4
  have hg := grow_ev xs.flatten.length hT
  obtain ⟨a, n, ha, hc, hn⟩ : ∃ (a : AV × qaa) (n : Nat), CInv xs 0 a ∧ (evL T).call qbi [.fsl [] true, (ii xs.flatten.length)] [] = some a ∧ a.2.length = n := by
    by_cases h0 : xs.flatten.length = 0
    · exact ⟨_, _, .inl ⟨rfl, h0, rfl⟩, by rw [hg, if_pos h0], rfl⟩
    · exact ⟨(.sl 0 0 0 0 false, [.row 6 ((List.replicate xs.flatten.length zEvt).map Evt.r) 0]), _, .inr ⟨0, _, rfl, .inr ⟨rfl, by omega⟩⟩, by rw [hg, if_neg h0], rfl⟩
  obtain ⟨⟨y', e', σ'⟩, l1, b, hb, l2, l3, l4, l5⟩ := qaau xs cl hx hT a ha n
  simp only at l1 l2 l3 l4 l5
  subst l2; subst l4
  have hb' : ∃ g : Nat, b = (.sl 0 g 0 xs.flatten.length false, [.row 6 (xs.flatten.map Evt.r) g]) := by
    rcases hb with ⟨h, _⟩ | ⟨g, W, rfl, hW⟩
    · exact absurd (List.eq_nil_of_length_eq_zero h) hne
    · rw [List.take_length] at hW ⊢
      rcases hW with rfl | ⟨h, h2⟩
      · exact ⟨g, rfl⟩
      · rw [h] at h2; simp at h2
  obtain ⟨g, rfl⟩ := hb'
  refine ⟨g, ?_⟩
  have himp : qg8 (q27 0) a.2 = some a.2 ∧ a.1.shift 0 = a.1 := by
    rcases ha with ⟨_, _, rfl⟩ | ⟨g, W, rfl, _⟩
    · exact ⟨rfl, rfl⟩
    · refine ⟨?_, rfl⟩
      simp only [q27, qfc, qgx, qgj, qac, q27, qgx, qfc, qgj, ↓qq, eq_self]
  obtain ⟨i1, i2⟩ := himp
  rw [qs qiy qiw]
  simp only [qcp, k1, k3, k5, k6, hc, hn, i1, i2, l1, l3, l5, qlq, qm, Ev.exec, qb, qe, qc, qoo, qag, Ev.evs, Ev.Opnd.ev, Ev.Env.get, Ev.Env.set, Ev.look, qn, ql, qx, qae, Ev.kill, qad, qr, Ev.keep, qai, qy, qd, qay, qw, qb2, qj, qk, qaf, List.length_map, ↓qq, ↓qak, ↓reduceIte, List.length_cons, List.length_nil, List.take_zero, zfe, List.nil_append, Nat.reduceEqDiff, Nat.reduceLT, reduceCtorEq, decide_false, zfc, zfa, and_self, and_true, zfd, eq_self]
theorem q85 (cl : Bool) : (evL T).call qa2 [.fsl [] cl] [] = some (.fsl [] true, []) := by
  cases cl
  · exact q4d 6 (by kernel_rfl)
  · exact q4d 6 (by kernel_rfl)
end
set_option maxRecDepth 10000
section
variable {c : Cfg} {x : Lp} {e : Evt}
theorem q38 (hp : x.procs = []) : qnb x e = none := by
  unfold qnb
  rw [hp]; simp
theorem q5u (hp : x.procs = []) : (qb6 c x e).lp.procs = [] := by
  unfold qb6
  split
  · exact hp
  · rw [q38 hp]; exact hp
theorem Exec_evF (h : Ready c x e) (f : Bool) (hf : f = true → x.procs = []) : qaz (evL T) qez [(.agg [(.fsl ((c.lps).map lpC) false), (.fsl ((c.progs).map qbm) false), (ii c.look), (ii c.fin), (ii c.cap)]), (.agg [(ii x.r0), (ii x.r1), (.fsl ((x.procs).map Pr.r) f), (ii x.sum)]), (.agg [(ii e.time), (.fsl ((e.key).map qcm) false), (ii e.lp), (ii e.kind), (ii e.proc), (ii e.arg)])] = some (.tup [(.agg [(ii ((qb6 c x e).lp.r0)), (ii ((qb6 c x e).lp.r1)), (.fsl (((qb6 c x e).lp.procs).map Pr.r) f), (ii ((qb6 c x e).lp.sum))]), (.fsl (((qb6 c x e).out).map Evt.r) (qb6 c x e).nil), (.fsl (((qb6 c x e).gone).map qfe) (qb6 c x e).nil), (bb ((qb6 c x e).over))]) := by
  cases f with
  | false => exact Exec_ev h
  | true =>
    have hp := hf rfl
    unfold qb6
    rw [qaz, qs qk4 qkl]
    rw [q38 hp]
    by_cases hk : e.kind = 3
    · rw [if_pos hk]
      simp only [qbz, hk, hp, List.map_nil, qm, Ev.exec, qb, qe, qc, qag, Ev.Opnd.ev, Ev.Env.get, Ev.Env.set, Ev.look, qn, qh, qab, Ev.AV.cells, Ev.AV.uc, qv, Ev.AV.plain, qaj, qal, ql, qx, qae, Ev.kill, qad, qd, qay, qbe, qbc, qw, qj, qk, qaf, qah, ↓qq, ↓reduceIte, List.length_cons, List.length_nil, List.getElem?_cons_zero, List.getElem?_cons_succ, List.take_succ_cons, List.take_zero, zfe, List.drop_succ_cons, List.drop_zero, List.drop_nil, List.cons_append, List.nil_append, List.append_nil, List.set_cons_zero, List.set_cons_succ, List.head?_cons, Nat.reduceAdd, Nat.reduceEqDiff, reduceCtorEq, decide_true, zfc, zfa, and_self, ne_eq, zfb, zff, zfd, Nat.le_refl, eq_self]
    rw [if_neg hk]
    by_cases h1 : e.proc < 0
    · by_cases k1 : e.kind = 1
      · simp only [qbz, k1, h1, hp, List.map_nil, qm, Ev.exec, qb, qe, qc, qag, Ev.Opnd.ev, Ev.Env.get, Ev.Env.set, Ev.Env.unset, Ev.look, qn, qh, qab, Ev.AV.cells, qv, Ev.AV.plain, qal, qax, qo, ql, qx, qae, Ev.kill, qad, qd, qay, qbe, qbc, qw, qj, qk, qaf, qah, ↓qq, ↓reduceIte, List.length_cons, List.length_nil, List.getElem?_cons_zero, List.getElem?_cons_succ, List.take_succ_cons, List.take_zero, zfe, List.drop_succ_cons, List.drop_zero, List.drop_nil, List.cons_append, List.nil_append, List.append_nil, List.set_cons_zero, List.set_cons_succ, List.head?_cons, Nat.reduceAdd, Nat.reduceEqDiff, Int.reduceEq, reduceCtorEq, decide_true, decide_false, zfc, zfa, and_self, ne_eq, zfb, not_true_eq_false, zff, zfd, Nat.le_refl, eq_self]
      by_cases k2 : e.kind = 2
      · simp only [qbz, k2, h1, hp, List.map_nil, qm, Ev.exec, qb, qe, qc, qag, Ev.Opnd.ev, Ev.Env.get, Ev.Env.set, Ev.look, qn, qh, qab, Ev.AV.cells, qv, Ev.AV.plain, qal, qax, qo, ql, qx, qae, Ev.kill, qad, qd, qay, qbe, qbc, qw, qj, qk, qaf, qah, ↓qq, ↓reduceIte, List.length_cons, List.length_nil, List.getElem?_cons_zero, List.getElem?_cons_succ, List.take_succ_cons, List.take_zero, zfe, List.drop_succ_cons, List.drop_zero, List.drop_nil, List.cons_append, List.nil_append, List.append_nil, List.set_cons_zero, List.set_cons_succ, List.head?_cons, Nat.reduceAdd, Nat.reduceEqDiff, Int.reduceEq, reduceCtorEq, decide_true, decide_false, zfc, zfa, and_self, ne_eq, zfb, not_true_eq_false, zff, zfd, Nat.le_refl, eq_self]
      · simp only [qbz, hk, k1, k2, hp, List.map_nil, qm, Ev.exec, qb, qe, qc, qag, Ev.Opnd.ev, Ev.Env.get, Ev.Env.set, Ev.look, qn, qh, qab, Ev.AV.cells, qv, Ev.AV.plain, qal, qax, ql, qx, qae, Ev.kill, qad, qd, qay, qbe, qbc, qw, qj, qk, qaf, qah, ↓qq, ↓reduceIte, List.length_cons, List.length_nil, List.getElem?_cons_zero, List.getElem?_cons_succ, List.take_succ_cons, List.take_zero, zfe, List.drop_succ_cons, List.drop_zero, List.drop_nil, List.cons_append, List.nil_append, List.append_nil, List.set_cons_zero, List.set_cons_succ, List.head?_cons, Nat.reduceAdd, Nat.reduceEqDiff, reduceCtorEq, decide_true, decide_false, zfc, zfa, and_self, ne_eq, zfb, zff, zfd, Nat.le_refl, eq_self]
    have h2 : e.proc ≥ ((0 : Nat) : Int) := by omega
    have h2' : e.proc ≥ 0 := by omega
    · by_cases k1 : e.kind = 1
      · simp only [qbz, k1, h1, h2', hp, List.map_nil, qm, Ev.exec, qb, qe, qc, qag, Ev.Opnd.ev, Ev.Env.get, Ev.Env.set, Ev.Env.unset, Ev.look, qn, qh, qab, Ev.AV.cells, qv, Ev.AV.plain, qal, qax, qo, qb5, ql, qx, qae, Ev.kill, qad, qd, qay, qbe, qbc, qw, qj, qk, qaf, qah, ↓qq, ↓reduceIte, List.length_cons, List.length_nil, List.getElem?_cons_zero, List.getElem?_cons_succ, List.take_succ_cons, List.take_zero, zfe, List.drop_succ_cons, List.drop_zero, List.drop_nil, List.cons_append, List.nil_append, List.append_nil, List.set_cons_zero, List.set_cons_succ, List.head?_cons, Nat.reduceAdd, Nat.reduceEqDiff, Int.reduceEq, Int.cast_ofNat_Int, reduceCtorEq, decide_true, decide_false, zfc, zfa, and_self, ne_eq, zfb, not_true_eq_false, zff, zfd, Nat.le_refl, eq_self]
      by_cases k2 : e.kind = 2
      · simp only [qbz, k2, h1, h2', hp, List.map_nil, qm, Ev.exec, qb, qe, qc, qag, Ev.Opnd.ev, Ev.Env.get, Ev.Env.set, Ev.look, qn, qh, qab, Ev.AV.cells, qv, Ev.AV.plain, qal, qax, qo, qb5, ql, qx, qae, Ev.kill, qad, qd, qay, qbe, qbc, qw, qj, qk, qaf, qah, ↓qq, ↓reduceIte, List.length_cons, List.length_nil, List.getElem?_cons_zero, List.getElem?_cons_succ, List.take_succ_cons, List.take_zero, zfe, List.drop_succ_cons, List.drop_zero, List.drop_nil, List.cons_append, List.nil_append, List.append_nil, List.set_cons_zero, List.set_cons_succ, List.head?_cons, Nat.reduceAdd, Nat.reduceEqDiff, Int.reduceEq, Int.cast_ofNat_Int, reduceCtorEq, decide_true, decide_false, zfc, zfa, and_self, ne_eq, zfb, not_true_eq_false, zff, zfd, Nat.le_refl, eq_self]
      · simp only [qbz, hk, k1, k2, hp, List.map_nil, qm, Ev.exec, qb, qe, qc, qag, Ev.Opnd.ev, Ev.Env.get, Ev.Env.set, Ev.look, qn, qh, qab, Ev.AV.cells, qv, Ev.AV.plain, qal, qax, ql, qx, qae, Ev.kill, qad, qd, qay, qbe, qbc, qw, qj, qk, qaf, qah, ↓qq, ↓reduceIte, List.length_cons, List.length_nil, List.getElem?_cons_zero, List.getElem?_cons_succ, List.take_succ_cons, List.take_zero, zfe, List.drop_succ_cons, List.drop_zero, List.drop_nil, List.cons_append, List.nil_append, List.append_nil, List.set_cons_zero, List.set_cons_succ, List.head?_cons, Nat.reduceAdd, Nat.reduceEqDiff, reduceCtorEq, decide_true, decide_false, zfc, zfa, and_self, ne_eq, zfb, zff, zfd, Nat.le_refl, eq_self]
theorem qaan (h : Ready c x e) (f : Bool) (hf : f = true → x.procs = []) : qaz (evL T) qgz [(.agg [(.fsl ((c.lps).map lpC) false), (.fsl ((c.progs).map qbm) false), (ii c.look), (ii c.fin), (ii c.cap)]), (.agg [(ii x.r0), (ii x.r1), (.fsl ((x.procs).map Pr.r) f), (ii x.sum)]), (.agg [(ii e.time), (.fsl ((e.key).map qcm) false), (ii e.lp), (ii e.kind), (ii e.proc), (ii e.arg)])] = some (.tup [(.agg [(ii ((qb6 c x e).lp.r0)), (ii ((qb6 c x e).lp.r1)), (.fsl (((qb6 c x e).lp.procs).map Pr.r) f), (ii ((qb6 c x e).lp.sum))]), (.fsl (((qb6 c x e).out).map Evt.r) (qb6 c x e).nil), (.fsl (((qb6 c x e).gone).map qfe) (qb6 c x e).nil), (bb ((qb6 c x e).over))]) := by
  cases f with
  | false => exact RExec_ev h
  | true =>
    have hp := hf rfl
    unfold qb6
    rw [qaz, qs qmn ql5]
    rw [q38 hp]
    by_cases hk : e.kind = 3
    · rw [if_pos hk]
      simp only [qcd, hk, hp, List.map_nil, Nat.reduceLeDiff, qm, Ev.exec, qb, qe, qc, qag, Ev.Opnd.ev, Ev.Env.get, Ev.Env.set, Ev.look, qn, qh, qab, qff, Ev.AV.cells, Ev.AV.uc, qv, Ev.AV.plain, qaj, qal, ql, qx, qae, Ev.kill, qad, qd, qay, qbe, qbc, qw, qj, qk, qaf, qah, ↓qq, ↓reduceIte, List.length_cons, List.length_nil, List.getElem?_cons_zero, List.getElem?_cons_succ, List.take_succ_cons, List.take_zero, zfe, List.drop_succ_cons, List.drop_zero, List.drop_nil, List.cons_append, List.nil_append, List.append_nil, List.set_cons_zero, List.set_cons_succ, List.head?_cons, Nat.reduceAdd, Nat.reduceEqDiff, Nat.reduceLeDiff, reduceCtorEq, decide_true, zfc, zfa, and_self, ne_eq, zfb, zff, zfd, Nat.add_zero, Nat.le_refl, eq_self]
    rw [if_neg hk]
    by_cases h1 : e.proc < 0
    · by_cases k1 : e.kind = 1
      · simp only [qcd, k1, h1, hp, List.map_nil, Nat.reduceLeDiff, qm, Ev.exec, qb, qe, qc, qag, Ev.Opnd.ev, Ev.Env.get, Ev.Env.set, Ev.Env.unset, Ev.look, qn, qh, qab, qff, Ev.AV.cells, qv, Ev.AV.plain, qal, qax, qo, ql, qx, qae, Ev.kill, qad, qd, qay, qbe, qbc, qw, qj, qk, qaf, qah, ↓qq, ↓reduceIte, List.length_cons, List.length_nil, List.getElem?_cons_zero, List.getElem?_cons_succ, List.take_succ_cons, List.take_zero, zfe, List.drop_succ_cons, List.drop_zero, List.drop_nil, List.cons_append, List.nil_append, List.append_nil, List.set_cons_zero, List.set_cons_succ, List.head?_cons, Nat.reduceAdd, Nat.reduceEqDiff, Nat.reduceLeDiff, Int.reduceEq, reduceCtorEq, decide_true, decide_false, zfc, zfa, Bool.true_eq_false, and_self, ne_eq, zfb, not_true_eq_false, zff, zfd, Nat.le_refl, eq_self]
      by_cases k2 : e.kind = 2
      · simp only [qcd, k2, h1, hp, List.map_nil, Nat.reduceLeDiff, qm, Ev.exec, qb, qe, qc, qag, Ev.Opnd.ev, Ev.Env.get, Ev.Env.set, Ev.Env.unset, Ev.look, qn, qh, qab, qff, Ev.AV.cells, qv, Ev.AV.plain, qal, qax, qo, ql, qx, qae, Ev.kill, qad, qd, qay, qbe, qbc, qw, qj, qk, qaf, qah, ↓qq, ↓reduceIte, List.length_cons, List.length_nil, List.getElem?_cons_zero, List.getElem?_cons_succ, List.take_succ_cons, List.take_zero, zfe, List.drop_succ_cons, List.drop_zero, List.drop_nil, List.cons_append, List.nil_append, List.append_nil, List.set_cons_zero, List.set_cons_succ, List.head?_cons, Nat.reduceAdd, Nat.reduceEqDiff, Nat.reduceLeDiff, Int.reduceEq, reduceCtorEq, decide_true, decide_false, zfc, zfa, Bool.true_eq_false, and_self, ne_eq, zfb, not_true_eq_false, zff, zfd, Nat.le_refl, eq_self]
      · simp only [qcd, hk, k1, k2, hp, List.map_nil, Nat.reduceLeDiff, qm, Ev.exec, qb, qe, qc, qag, Ev.Opnd.ev, Ev.Env.get, Ev.Env.set, Ev.Env.unset, Ev.look, qn, qh, qab, qff, Ev.AV.cells, qv, Ev.AV.plain, qal, qax, ql, qx, qae, Ev.kill, qad, qd, qay, qbe, qbc, qw, qj, qk, qaf, qah, ↓qq, ↓reduceIte, List.length_cons, List.length_nil, List.getElem?_cons_zero, List.getElem?_cons_succ, List.take_succ_cons, List.take_zero, zfe, List.drop_succ_cons, List.drop_zero, List.drop_nil, List.cons_append, List.nil_append, List.append_nil, List.set_cons_zero, List.set_cons_succ, List.head?_cons, Nat.reduceAdd, Nat.reduceEqDiff, Nat.reduceLeDiff, reduceCtorEq, decide_true, decide_false, zfc, zfa, Bool.true_eq_false, and_self, ne_eq, zfb, zff, zfd, Nat.le_refl, eq_self]
    have h2 : e.proc ≥ ((0 : Nat) : Int) := by omega
    have h2' : e.proc ≥ 0 := by omega
    · by_cases k1 : e.kind = 1
      · simp only [qcd, k1, h1, h2', hp, List.map_nil, Nat.reduceLeDiff, qm, Ev.exec, qb, qe, qc, qag, Ev.Opnd.ev, Ev.Env.get, Ev.Env.set, Ev.Env.unset, Ev.look, qn, qh, qab, qff, Ev.AV.cells, qv, Ev.AV.plain, qal, qax, qo, qb5, ql, qx, qae, Ev.kill, qad, qd, qay, qbe, qbc, qw, qj, qk, qaf, qah, ↓qq, ↓reduceIte, List.length_cons, List.length_nil, List.getElem?_cons_zero, List.getElem?_cons_succ, List.take_succ_cons, List.take_zero, zfe, List.drop_succ_cons, List.drop_zero, List.drop_nil, List.cons_append, List.nil_append, List.append_nil, List.set_cons_zero, List.set_cons_succ, List.head?_cons, Nat.reduceAdd, Nat.reduceEqDiff, Nat.reduceLeDiff, Int.reduceEq, Int.cast_ofNat_Int, reduceCtorEq, decide_true, decide_false, zfc, zfa, Bool.true_eq_false, and_self, ne_eq, zfb, not_true_eq_false, zff, zfd, Nat.le_refl, eq_self]
      by_cases k2 : e.kind = 2
      · simp only [qcd, k2, h1, h2', hp, List.map_nil, Nat.reduceLeDiff, qm, Ev.exec, qb, qe, qc, qag, Ev.Opnd.ev, Ev.Env.get, Ev.Env.set, Ev.Env.unset, Ev.look, qn, qh, qab, qff, Ev.AV.cells, qv, Ev.AV.plain, qal, qax, qo, qb5, ql, qx, qae, Ev.kill, qad, qd, qay, qbe, qbc, qw, qj, qk, qaf, qah, ↓qq, ↓reduceIte, List.length_cons, List.length_nil, List.getElem?_cons_zero, List.getElem?_cons_succ, List.take_succ_cons, List.take_zero, zfe, List.drop_succ_cons, List.drop_zero, List.drop_nil, List.cons_append, List.nil_append, List.append_nil, List.set_cons_zero, List.set_cons_succ, List.head?_cons, Nat.reduceAdd, Nat.reduceEqDiff, Nat.reduceLeDiff, Int.reduceEq, Int.cast_ofNat_Int, reduceCtorEq, decide_true, decide_false, zfc, zfa, Bool.true_eq_false, and_self, ne_eq, zfb, not_true_eq_false, zff, zfd, Nat.le_refl, eq_self]
      · simp only [qcd, hk, k1, k2, hp, List.map_nil, Nat.reduceLeDiff, qm, Ev.exec, qb, qe, qc, qag, Ev.Opnd.ev, Ev.Env.get, Ev.Env.set, Ev.Env.unset, Ev.look, qn, qh, qab, qff, Ev.AV.cells, qv, Ev.AV.plain, qal, qax, ql, qx, qae, Ev.kill, qad, qd, qay, qbe, qbc, qw, qj, qk, qaf, qah, ↓qq, ↓reduceIte, List.length_cons, List.length_nil, List.getElem?_cons_zero, List.getElem?_cons_succ, List.take_succ_cons, List.take_zero, zfe, List.drop_succ_cons, List.drop_zero, List.drop_nil, List.cons_append, List.nil_append, List.append_nil, List.set_cons_zero, List.set_cons_succ, List.head?_cons, Nat.reduceAdd, Nat.reduceEqDiff, Nat.reduceLeDiff, reduceCtorEq, decide_true, decide_false, zfc, zfa, Bool.true_eq_false, and_self, ne_eq, zfb, zff, zfd, Nat.le_refl, eq_self]
end
set_option maxRecDepth 10000
structure SimSt (n : Nat) (s : Sim) (L : List (Lp × Bool)) (A : qaa) (O : List (List AV)) : Prop where
  len : A.length = n + 1
  lps : A[0]? = some (.row 4 (L.map lpF) 1)
  lpl : L.length = n
  lpf : L.map Prod.fst = s.lps
  flag : ∀ x ∈ L, x.2 = true → x.1.procs = []
  trl : s.trace.length = n
  ol : O.length = n
  tr : ∀ i : Nat, i < n → ∃ g, A[i + 1]? = some (.row 6 ((qk0 s i).map Evt.r) g) ∧ O[i]? = some [.sl (i + 1) g 0 (qk0 s i).length false]
  alo : qd (n + 1) A = true
  olo : qi0 (n + 1) O = true
def qsr : CCode → CCode
  | .seq a _ => a
  | c => c
def qsv : CCode → CCode
  | .seq _ b => b
  | c => c
def cm1 : CCode := qsr qap.body
def qaa5 : CCode := qsv qap.body
def cm2 : CCode := qsr qaa5
def cm2' : CCode := qsv qaa5
def cm3 : CCode := qsr cm2'
def cm3' : CCode := qsv cm2'
def cm4 : CCode := qsr cm3'
def cm4' : CCode := qsv cm3'
def cm5 : CCode := qsr cm4'
def cm5' : CCode := qsv cm4'
def cm6 : CCode := qsr cm5'
def cm6' : CCode := qsv cm5'
def cm7 : CCode := qsr cm6'
def cm7' : CCode := qsv cm6'
def cm8 : CCode := qsr cm7'
def cm9 : CCode := qsv cm7'
theorem q6i : qap.body = .seq cm1 (.seq cm2 (.seq cm3 (.seq cm4 (.seq cm5 (.seq cm6 (.seq cm7 (.seq cm8 cm9))))))) := rfl
structure Pre (A : qaa) (n : Nat) : Prop where
  len : A.length = n + 1
section
variable {A : qaa} {n : Nat} (h : A.length = n + 1) (B : qaa) (x : SObj)
include h
theorem q6d : (A ++ B)[n + 1]? = B[0]? := by rw [← h, List.getElem?_append_right (Nat.le_refl _), Nat.sub_self]
theorem ql1 : (A ++ B)[n + 2]? = B[1]? := by rw [List.getElem?_append_right (by omega)]; congr 1; omega
theorem q56 : (A ++ B)[n + 3]? = B[2]? := by rw [List.getElem?_append_right (by omega)]; congr 1; omega
theorem pre_g4 : (A ++ B)[n + 4]? = B[3]? := by rw [List.getElem?_append_right (by omega)]; congr 1; omega
theorem pre_g5 : (A ++ B)[n + 5]? = B[4]? := by rw [List.getElem?_append_right (by omega)]; congr 1; omega
theorem pre_g6 : (A ++ B)[n + 6]? = B[5]? := by rw [List.getElem?_append_right (by omega)]; congr 1; omega
theorem pre_s1 : (A ++ B).set (n + 1) x = A ++ B.set 0 x := by rw [List.set_append, if_neg (by omega)]; congr 2; omega
theorem q52 : (A ++ B).set (n + 2) x = A ++ B.set 1 x := by rw [List.set_append, if_neg (by omega)]; congr 2; omega
theorem pre_s3 : (A ++ B).set (n + 3) x = A ++ B.set 2 x := by rw [List.set_append, if_neg (by omega)]; congr 2; omega
theorem pre_s4 : (A ++ B).set (n + 4) x = A ++ B.set 3 x := by rw [List.set_append, if_neg (by omega)]; congr 2; omega
theorem pre_s5 : (A ++ B).set (n + 5) x = A ++ B.set 4 x := by rw [List.set_append, if_neg (by omega)]; congr 2; omega
theorem pre_s6 : (A ++ B).set (n + 6) x = A ++ B.set 5 x := by rw [List.set_append, if_neg (by omega)]; congr 2; omega
theorem q36 (i : Nat) (hi : i < n + 1) : (A ++ B)[i]? = A[i]? := List.getElem?_append_left (by omega)
theorem q8f (i : Nat) (hi : i < n + 1) : (A ++ B).set i x = A.set i x ++ B := by rw [List.set_append, if_pos (by omega)]
theorem q3j : (A ++ B).take (n + 3) = A ++ B.take 2 := by rw [List.take_append, List.take_of_length_le (by omega)]; congr 2; omega
end
section
variable (c : Cfg) (n : Nat) (A : qaa) (O : List (List AV)) (hA : A.length = n + 1) (rest : List Evt) (e : Evt) (k : Int) (ov : Bool)
include hA
theorem qabf (env : Env) (h0 : Ev.look env.vars 0 = some (.ptr (n + 2) 0 0 0)) :
    ∃ env', exec (evL T) itL none cm1 env (A ++ [.row 1 O 0, (.row 10 [[(.fsl ((c.lps).map lpC) false), (.fsl ((c.progs).map qbm) false), (ii c.look), (ii c.fin), (ii c.cap), .sl (n + 1) 0 0 n false, .sl 0 1 0 n false, (.fsl ((e :: rest).map Evt.r) false), (ii k), (bb ov)]] 0)]) = some (.normal, env', A ++ [.row 1 O 0, (.row 10 [[(.fsl ((c.lps).map lpC) false), (.fsl ((c.progs).map qbm) false), (ii c.look), (ii c.fin), (ii c.cap), .sl (n + 1) 0 0 n false, .sl 0 1 0 n false, (.fsl ((e :: rest).map Evt.r) false), (ii k), (bb ov)]] 0), .row 6 [e.r] 0, .hole]) ∧
      env'.marks = env.marks ∧ Ev.look env'.vars 0 = some (.ptr (n + 2) 0 0 0) ∧ Ev.look env'.vars 2 = some (.ptr (n + 3) 0 0 0) := by
  simp only [cm1, qsr, qap, h0, ql1 hA, q56 hA, pre_s3 hA, hA, Nat.add_assoc, List.append_assoc, List.map_cons, Evt.r, Int.toNat_zero, Int.le_refl, Ev.exec, qb, qe, qc, qag, Ev.Opnd.ev, Ev.Env.get, Ev.Env.set, Ev.look, qh, qab, Ev.AV.cells, qv, Ev.AV.plain, ↓qq, ↓reduceIte, List.length_cons, List.length_nil, List.length_append, List.getElem?_cons_zero, List.getElem?_cons_succ, List.take_succ_cons, List.take_zero, zfe, List.drop_succ_cons, List.drop_zero, List.drop_nil, List.cons_append, List.nil_append, List.append_nil, List.set_cons_zero, List.set_cons_succ, List.head?_cons, Nat.reduceAdd, Nat.reduceEqDiff, zfc, zfa, and_self, ne_eq, zfb, zff, zfd, Nat.le_refl, eq_self]
  refine ⟨_, rfl, ?_, ?_, ?_⟩
  · rfl
  · exact h0
  · rfl
theorem qabo (X : qaa) (env : Env) (h0 : Ev.look env.vars 0 = some (.ptr (n + 2) 0 0 0)) (h2 : Ev.look env.vars 2 = some (.ptr (n + 3) 0 0 0)) :
    ∃ env', exec (evL T) itL none cm2 env (A ++ .row 1 O 0 :: (.row 10 [[(.fsl ((c.lps).map lpC) false), (.fsl ((c.progs).map qbm) false), (ii c.look), (ii c.fin), (ii c.cap), .sl (n + 1) 0 0 n false, .sl 0 1 0 n false, (.fsl ((e :: rest).map Evt.r) false), (ii k), (bb ov)]] 0) :: X) = some (.normal, env', A ++ .row 1 O 0 :: (.row 10 [[(.fsl ((c.lps).map lpC) false), (.fsl ((c.progs).map qbm) false), (ii c.look), (ii c.fin), (ii c.cap), .sl (n + 1) 0 0 n false, .sl 0 1 0 n false, (.fsl ((rest).map Evt.r) false), (ii k), (bb ov)]] 0) :: X) ∧
      env'.marks = env.marks ∧ Ev.look env'.vars 0 = some (.ptr (n + 2) 0 0 0) ∧ Ev.look env'.vars 2 = some (.ptr (n + 3) 0 0 0) := by
  have ok := qlv (e :: rest)
  have c1 : (1 : Int) ≤ ((rest.length + 1 : Nat) : Int) := by omega
  have c2 : (((rest.length + 1 : Nat) : Int)).toNat - 1 = rest.length := by omega
  have tk : List.take rest.length (rest.map Evt.r) = rest.map Evt.r := List.take_of_length_le (by simp)
  simp only [List.map_cons] at ok ⊢
  simp only [qaa5, cm2, qsr, qsv, qap, h0, ql1 hA, q52 hA, ok, c1, c2, tk, Int.le_refl, imp_self, Int.toNat_one, Ev.exec, qb, qe, qc, qag, Ev.Opnd.ev, Ev.Env.get, Ev.Env.set, Ev.look, qjv, qh, qab, Ev.AV.cells, Ev.AV.uc, qv, Ev.AV.plain, List.length_map, ↓qq, ↓reduceIte, List.length_cons, List.length_nil, List.getElem?_cons_zero, List.getElem?_cons_succ, List.take_succ_cons, List.take_zero, List.drop_succ_cons, List.drop_zero, List.cons_append, List.nil_append, List.set_cons_zero, List.set_cons_succ, List.head?_cons, Nat.reduceAdd, Nat.reduceEqDiff, Nat.reduceLeDiff, Int.reduceLE, reduceCtorEq, decide_true, zfc, Bool.and_true, zfa, and_self, zfd, Option.isSome_none, eq_self]
  refine ⟨_, rfl, ?_, ?_, ?_⟩
  · rfl
  · exact h0
  · exact h2
end
set_option maxRecDepth 10000
section
variable (c : Cfg) (n : Nat) (A : qaa) (O : List (List AV)) (hA : A.length = n + 1) (rest : List Evt) (et ei ep ea : Int) (ek : List Int) (i : Nat) (hi : i < n) (k : Int) (ov : Bool)
include hA
theorem qaav (hi : i < n) (t : List Evt) (g : Nat) (ht : t.length ≤ 1000) (hO : O[i]? = some [.sl (i + 1) g 0 t.length false]) (hAi : A[i + 1]? = some (.row 6 (t.map Evt.r) g)) (X : qaa) (env : Env) (h0 : Ev.look env.vars 0 = some (.ptr (n + 2) 0 0 0)) (h2 : Ev.look env.vars 2 = some (.ptr (n + 3) 0 0 0)) :
    ∃ env', exec (evL T) itL none cm3 env (A ++ .row 1 O 0 :: (.row 10 [[(.fsl ((c.lps).map lpC) false), (.fsl ((c.progs).map qbm) false), (ii c.look), (ii c.fin), (ii c.cap), .sl (n + 1) 0 0 n false, .sl 0 1 0 n false, (.fsl ((rest).map Evt.r) false), (ii k), (bb ov)]] 0) :: (.row 6 [[(ii et), (.fsl ((ek).map qcm) false), (ii i), (ii ei), (ii ep), (ii ea)]] 0) :: X) = some (.normal, env', A.set (i + 1) (.row 6 ((t ++ [(⟨et, ek, (i : Int), ei, ep, ea⟩ : Evt)]).map Evt.r) (g + 1)) ++ .row 1 (O.set i [.sl (i + 1) (g + 1) 0 (t.length + 1) false]) 0 :: (.row 10 [[(.fsl ((c.lps).map lpC) false), (.fsl ((c.progs).map qbm) false), (ii c.look), (ii c.fin), (ii c.cap), .sl (n + 1) 0 0 n false, .sl 0 1 0 n false, (.fsl ((rest).map Evt.r) false), (ii k), (bb ov)]] 0) :: (.row 6 [[(ii et), (.fsl ((ek).map qcm) false), (ii i), (ii ei), (ii ep), (ii ea)]] 0) :: X) ∧
      env'.marks = env.marks ∧ Ev.look env'.vars 0 = some (.ptr (n + 2) 0 0 0) ∧ Ev.look env'.vars 2 = some (.ptr (n + 3) 0 0 0) := by
  have p1 := fun B => q36 hA B (i + 1) (by omega)
  have p2 := fun B x => q8f hA B x (i + 1) (by omega)
  have b1 : ((n + 2) == (i + 1)) = false := by rw [beq_eq_false_iff_ne]; omega
  have b2 : ((n + 3) == (i + 1)) = false := by rw [beq_eq_false_iff_ne]; omega
  have b3 : ((n + 1) == i) = false := by rw [beq_eq_false_iff_ne]; omega
  have b4 : ((n + 2) == i) = false := by rw [beq_eq_false_iff_ne]; omega
  have tk : List.take t.length (t.map Evt.r) = t.map Evt.r := List.take_of_length_le (by simp)
  have bd : (t.length + 1) * 64 ≤ 140737488355328 := by omega
  have hA2 : ∀ v, (A.set (i + 1) v).length = n + 1 := fun v => by rw [List.length_set]; exact hA
  have q1 := fun v B => q6d (hA2 v) B
  have q2 := fun v B => ql1 (hA2 v) B
  have q3 := fun v B => q56 (hA2 v) B
  have q4 := fun v B x => pre_s1 (hA2 v) B x
  have hm : ∀ e : Evt, (t ++ [e]).map Evt.r = t.map Evt.r ++ [e.r] := fun e => by rw [List.map_append]; rfl
  rw [hm]
  simp only [qaa5, cm2', cm3, qsr, qsv, qap, h0, h2, q6d hA, ql1 hA, q56 hA, p1, p2, q1, q4, hO, hAi, b1, b2, tk, bd, hi, Evt.r, Int.toNat_natCast, Int.natCast_nonneg, Ev.exec, qb, qe, qc, q83, qag, qsn, Ev.Opnd.ev, Ev.Env.get, Ev.Env.set, Ev.look, qh, qc0, qab, qh9, Ev.AV.cells, Ev.AV.uc, qv, Ev.AV.plain, qoi, Ev.AV.obj?, qcb, qcc, List.replicate_one, List.length_map, ↓qq, ↓reduceIte, List.length_cons, List.length_nil, List.getElem?_cons_zero, List.getElem?_cons_succ, List.take_succ_cons, List.take_zero, zfe, List.drop_succ_cons, List.drop_zero, List.drop_nil, List.nil_append, List.append_nil, List.set_cons_zero, List.head?_cons, Nat.reduceAdd, Nat.reduceEqDiff, Nat.reduceMul, Nat.reduceLeDiff, Nat.reducePow, reduceCtorEq, decide_true, zfc, Bool.not_false, zfa, and_self, ne_eq, zfb, zff, zfd, Nat.lt_add_one, Nat.le_refl, eq_self, beq_self_eq_true]
  refine ⟨_, rfl, ?_, ?_, ?_⟩
  · rfl
  · exact h0
  · exact h2
theorem qab3 (X : qaa) (env : Env) (h0 : Ev.look env.vars 0 = some (.ptr (n + 2) 0 0 0)) (h2 : Ev.look env.vars 2 = some (.ptr (n + 3) 0 0 0)) :
    ∃ env', exec (evL T) itL none cm4 env (A ++ .row 1 O 0 :: (.row 10 [[(.fsl ((c.lps).map lpC) false), (.fsl ((c.progs).map qbm) false), (ii c.look), (ii c.fin), (ii c.cap), .sl (n + 1) 0 0 n false, .sl 0 1 0 n false, (.fsl ((rest).map Evt.r) false), (ii k), (bb ov)]] 0) :: X) = some (.normal, env', A ++ .row 1 O 0 :: (.row 10 [[(.fsl ((c.lps).map lpC) false), (.fsl ((c.progs).map qbm) false), (ii c.look), (ii c.fin), (ii c.cap), .sl (n + 1) 0 0 n false, .sl 0 1 0 n false, (.fsl ((rest).map Evt.r) false), (ii ((IntKind.i64.wrap (k + 1)))), (bb ov)]] 0) :: X) ∧
      env'.marks = env.marks ∧ Ev.look env'.vars 0 = some (.ptr (n + 2) 0 0 0) ∧ Ev.look env'.vars 2 = some (.ptr (n + 3) 0 0 0) := by
  simp only [qaa5, cm2', cm3', cm4, qsr, qsv, qap, h0, ql1 hA, q52 hA, Ev.exec, qb, qe, qc, qag, Ev.Opnd.ev, Ev.Env.get, Ev.Env.set, Ev.look, qh, qab, Ev.AV.cells, Ev.AV.uc, qv, Ev.AV.plain, qaj, ↓qq, ↓reduceIte, List.length_cons, List.length_nil, List.getElem?_cons_zero, List.getElem?_cons_succ, List.take_succ_cons, List.take_zero, List.drop_succ_cons, List.drop_zero, List.cons_append, List.nil_append, List.set_cons_zero, List.set_cons_succ, List.head?_cons, Nat.reduceAdd, Nat.reduceEqDiff, Nat.reduceLeDiff, zfc, zfa, and_self, zfd, eq_self]
  refine ⟨_, rfl, ?_, ?_, ?_⟩
  · rfl
  · exact h0
  · exact h2
theorem qacd (hi : i < n) (L : List (Lp × Bool)) (x : Lp) (f : Bool) (hL : L[i]? = some (x, f)) (hA0 : A[0]? = some (.row 4 (L.map lpF) 1)) (r : XRes) (hE : qaz (evL T) qez [(.agg [(.fsl ((c.lps).map lpC) false), (.fsl ((c.progs).map qbm) false), (ii c.look), (ii c.fin), (ii c.cap)]), (.agg [(ii x.r0), (ii x.r1), (.fsl ((x.procs).map Pr.r) f), (ii x.sum)]), (.agg [(ii ((⟨et, ek, (i : Int), ei, ep, ea⟩ : Evt).time)), (.fsl (((⟨et, ek, (i : Int), ei, ep, ea⟩ : Evt).key).map qcm) false), (ii ((⟨et, ek, (i : Int), ei, ep, ea⟩ : Evt).lp)), (ii ((⟨et, ek, (i : Int), ei, ep, ea⟩ : Evt).kind)), (ii ((⟨et, ek, (i : Int), ei, ep, ea⟩ : Evt).proc)), (ii ((⟨et, ek, (i : Int), ei, ep, ea⟩ : Evt).arg))])] = some (.tup [(.agg [(ii r.lp.r0), (ii r.lp.r1), (.fsl ((r.lp.procs).map Pr.r) f), (ii r.lp.sum)]), (.fsl ((r.out).map Evt.r) r.nil), (.fsl ((r.gone).map qfe) r.nil), (bb r.over)]))
    (env : Env) (h0 : Ev.look env.vars 0 = some (.ptr (n + 2) 0 0 0)) (h2 : Ev.look env.vars 2 = some (.ptr (n + 3) 0 0 0)) :
    ∃ env', exec (evL T) itL none cm5 env (A ++ [.row 1 O 0, (.row 10 [[(.fsl ((c.lps).map lpC) false), (.fsl ((c.progs).map qbm) false), (ii c.look), (ii c.fin), (ii c.cap), .sl (n + 1) 0 0 n false, .sl 0 1 0 n false, (.fsl ((rest).map Evt.r) false), (ii k), (bb ov)]] 0), (.row 6 [[(ii et), (.fsl ((ek).map qcm) false), (ii i), (ii ei), (ii ep), (ii ea)]] 0), .hole]) = some (.normal, env', A ++ [.row 1 O 0, (.row 10 [[(.fsl ((c.lps).map lpC) false), (.fsl ((c.progs).map qbm) false), (ii c.look), (ii c.fin), (ii c.cap), .sl (n + 1) 0 0 n false, .sl 0 1 0 n false, (.fsl ((rest).map Evt.r) false), (ii k), (bb ov)]] 0), (.row 6 [[(ii et), (.fsl ((ek).map qcm) false), (ii i), (ii ei), (ii ep), (ii ea)]] 0), .row 1 [[(.fsl ((r.gone).map qfe) false)]] 1, .row 4 [lpF (r.lp, f)] 0]) ∧
      env'.marks = env.marks ∧ Ev.look env'.vars 0 = some (.ptr (n + 2) 0 0 0) ∧ Ev.look env'.vars 2 = some (.ptr (n + 3) 0 0 0) ∧ Ev.look env'.vars 3 = some (.ptr (n + 5) 0 0 0) ∧ Ev.look env'.vars 4 = some (.fsl ((r.out).map Evt.r) r.nil) ∧ Ev.look env'.vars 5 = some (.ptr (n + 4) 1 0 0) ∧ Ev.look env'.vars 6 = some (bb r.over) := by
  have p1 := fun B => q36 hA B 0 (by omega)
  have hLm : (L.map lpF)[i]? = some (lpF (x, f)) := by rw [List.getElem?_map, hL]; rfl
  simp only [qaa5, cm2', cm3', cm4', cm5, qsr, qsv, qap, h0, h2, ql1 hA, q56 hA, pre_g4 hA, pre_g5 hA, pre_s4 hA, pre_s5 hA, hA, Nat.add_assoc, List.append_assoc, p1, hA0, hLm, hi, hE, lpF, Int.toNat_natCast, Int.natCast_nonneg, qar, qb1, qa3, qat, Ev.exec, qb, qe, qc, qaw, qag, Ev.evs, Ev.Opnd.ev, Ev.Env.get, Ev.Env.set, Ev.look, qh, qab, Ev.AV.cells, Ev.AV.uc, qv, Ev.AV.plain, qay, qbe, qw, qj, qk, ↓qq, ↓reduceIte, List.length_cons, List.length_nil, List.length_append, List.getElem?_cons_zero, List.getElem?_cons_succ, List.take_succ_cons, List.take_zero, zfe, List.drop_succ_cons, List.drop_zero, List.drop_nil, List.cons_append, List.nil_append, List.append_nil, List.set_cons_zero, List.set_cons_succ, List.head?_cons, Nat.reduceAdd, Nat.reduceEqDiff, Nat.reduceLeDiff, reduceCtorEq, zfc, zfa, and_self, ne_eq, zfb, zff, zfd, Nat.add_zero, Nat.le_refl, eq_self]
  refine ⟨_, rfl, ?_, ?_, ?_, ?_, ?_, ?_, ?_⟩
  · rfl
  · exact h0
  · exact h2
  · rfl
  · rfl
  · rfl
  · rfl
theorem qaa8 (hi : i < n) (L : List (Lp × Bool)) (x y : Lp × Bool) (hL : L[i]? = some x) (hA0 : A[0]? = some (.row 4 (L.map lpF) 1)) (X : SObj) (env : Env) (h0 : Ev.look env.vars 0 = some (.ptr (n + 2) 0 0 0)) (h2 : Ev.look env.vars 2 = some (.ptr (n + 3) 0 0 0)) (h3 : Ev.look env.vars 3 = some (.ptr (n + 5) 0 0 0))
    (v4 v5 v6 : AV) (h4 : Ev.look env.vars 4 = some v4) (h5 : Ev.look env.vars 5 = some v5) (h6 : Ev.look env.vars 6 = some v6) :
    ∃ env', exec (evL T) itL none cm6 env (A ++ [.row 1 O 0, (.row 10 [[(.fsl ((c.lps).map lpC) false), (.fsl ((c.progs).map qbm) false), (ii c.look), (ii c.fin), (ii c.cap), .sl (n + 1) 0 0 n false, .sl 0 1 0 n false, (.fsl ((rest).map Evt.r) false), (ii k), (bb ov)]] 0), (.row 6 [[(ii et), (.fsl ((ek).map qcm) false), (ii i), (ii ei), (ii ep), (ii ea)]] 0), X, .row 4 [lpF y] 0]) = some (.normal, env', A.set 0 (.row 4 ((L.set i y).map lpF) 1) ++ [.row 1 O 0, (.row 10 [[(.fsl ((c.lps).map lpC) false), (.fsl ((c.progs).map qbm) false), (ii c.look), (ii c.fin), (ii c.cap), .sl (n + 1) 0 0 n false, .sl 0 1 0 n false, (.fsl ((rest).map Evt.r) false), (ii k), (bb ov)]] 0), (.row 6 [[(ii et), (.fsl ((ek).map qcm) false), (ii i), (ii ei), (ii ep), (ii ea)]] 0), X, .row 4 [lpF y] 0]) ∧
      env'.marks = env.marks ∧ Ev.look env'.vars 0 = some (.ptr (n + 2) 0 0 0) ∧ Ev.look env'.vars 4 = some v4 ∧ Ev.look env'.vars 5 = some v5 ∧ Ev.look env'.vars 6 = some v6 := by
  have p1 := fun B => q36 hA B 0 (by omega)
  have p2 := fun B x => q8f hA B x 0 (by omega)
  have hLm : (L.map lpF)[i]? = some (lpF x) := by rw [List.getElem?_map, hL]; rfl
  rw [List.map_set]
  simp only [qaa5, cm2', cm3', cm4', cm5', cm6, qsr, qsv, qap, h0, h2, h3, ql1 hA, q56 hA, pre_g5 hA, p1, p2, hA0, hLm, hi, lpF, Int.toNat_natCast, Int.natCast_nonneg, Ev.exec, qb, qe, qc, qag, Ev.Opnd.ev, Ev.Env.get, Ev.Env.set, Ev.look, qh, qab, Ev.AV.cells, qv, Ev.AV.plain, ↓qq, ↓reduceIte, List.length_cons, List.length_nil, List.getElem?_cons_zero, List.getElem?_cons_succ, List.take_succ_cons, List.take_zero, zfe, List.drop_succ_cons, List.drop_zero, List.drop_nil, List.nil_append, List.append_nil, List.head?_cons, Nat.reduceAdd, Nat.reduceEqDiff, zfc, zfa, and_self, zfd, Nat.le_refl, eq_self]
  refine ⟨_, rfl, ?_, ?_, ?_, ?_, ?_⟩
  · rfl
  · exact h0
  · exact h4
  · exact h5
  · exact h6
theorem qabu (X : qaa) (env : Env) (h0 : Ev.look env.vars 0 = some (.ptr (n + 2) 0 0 0)) (v4 v5 : AV) (o6 : Bool) (h4 : Ev.look env.vars 4 = some v4) (h5 : Ev.look env.vars 5 = some v5) (h6 : Ev.look env.vars 6 = some (bb o6)) :
    ∃ env', exec (evL T) itL none cm7 env (A ++ .row 1 O 0 :: (.row 10 [[(.fsl ((c.lps).map lpC) false), (.fsl ((c.progs).map qbm) false), (ii c.look), (ii c.fin), (ii c.cap), .sl (n + 1) 0 0 n false, .sl 0 1 0 n false, (.fsl ((rest).map Evt.r) false), (ii k), (bb ov)]] 0) :: X) = some (.normal, env', A ++ .row 1 O 0 :: (.row 10 [[(.fsl ((c.lps).map lpC) false), (.fsl ((c.progs).map qbm) false), (ii c.look), (ii c.fin), (ii c.cap), .sl (n + 1) 0 0 n false, .sl 0 1 0 n false, (.fsl ((rest).map Evt.r) false), (ii k), (bb ((ov || o6)))]] 0) :: X) ∧
      env'.marks = env.marks ∧ Ev.look env'.vars 0 = some (.ptr (n + 2) 0 0 0) ∧ Ev.look env'.vars 4 = some v4 ∧ Ev.look env'.vars 5 = some v5 := by
  cases ov
  · simp only [qaa5, cm2', cm3', cm4', cm5', cm6', cm7, qsr, qsv, qap, h0, h6, ql1 hA, q52 hA, Ev.exec, qb, qe, qc, qag, Ev.Opnd.ev, Ev.Env.get, Ev.Env.set, Ev.look, qh, qab, Ev.AV.cells, Ev.AV.uc, qv, Ev.AV.plain, ↓qq, ↓reduceIte, List.length_cons, List.length_nil, List.getElem?_cons_zero, List.getElem?_cons_succ, List.take_succ_cons, List.take_zero, List.drop_succ_cons, List.drop_zero, List.drop_nil, List.cons_append, List.nil_append, List.append_nil, List.set_cons_zero, List.set_cons_succ, List.head?_cons, Nat.reduceAdd, Nat.reduceEqDiff, reduceCtorEq, zfc, Bool.false_or, zfa, and_self, zfd, Nat.le_refl, eq_self]
    refine ⟨_, rfl, ?_, ?_, ?_, ?_⟩
    · rfl
    · exact h0
    · exact h4
    · exact h5
  · simp only [qaa5, cm2', cm3', cm4', cm5', cm6', cm7, qsr, qsv, qap, h0, ql1 hA, q52 hA, Ev.exec, qb, qe, qc, qag, Ev.Opnd.ev, Ev.Env.get, Ev.Env.set, Ev.Env.unset, Ev.look, qh, qab, Ev.AV.cells, Ev.AV.uc, qv, Ev.AV.plain, ↓qq, ↓reduceIte, List.length_cons, List.length_nil, List.getElem?_cons_zero, List.getElem?_cons_succ, List.take_succ_cons, List.take_zero, List.drop_succ_cons, List.drop_zero, List.drop_nil, List.cons_append, List.nil_append, List.append_nil, List.set_cons_zero, List.set_cons_succ, List.head?_cons, Nat.reduceAdd, Nat.reduceEqDiff, reduceCtorEq, zfc, Bool.true_or, zfa, Bool.true_eq_false, and_self, zfd, Nat.le_refl, eq_self]
    refine ⟨_, rfl, ?_, ?_, ?_, ?_⟩
    · rfl
    · exact h0
    · exact h4
    · exact h5
theorem qab0 (σ : qaa) (env : Env) (h0 : Ev.look env.vars 0 = some (.ptr (n + 2) 0 0 0)) (v4 v5 : AV) (h4 : Ev.look env.vars 4 = some v4) (h5 : Ev.look env.vars 5 = some v5) :
    ∃ env', exec (evL T) itL none cm8 env σ = some (.normal, env', σ) ∧
      env'.marks = env.marks ∧ Ev.look env'.vars 0 = some (.ptr (n + 2) 0 0 0) ∧ Ev.look env'.vars 4 = some v4 ∧ Ev.look env'.vars 7 = some (.fn (.func qa0) [] [v5]) := by
  simp only [qaa5, cm2', cm3', cm4', cm5', cm6', cm7', cm8, qsr, qsv, qap, h5, Ev.exec, qb, qe, qc, qag, Ev.evs, Ev.Opnd.ev, Ev.Env.get, Ev.Env.set, Ev.look, ↓qq, ↓reduceIte, eq_self]
  refine ⟨_, rfl, ?_, ?_, ?_, ?_⟩
  · rfl
  · exact h0
  · exact h4
  · rfl
end
set_option maxRecDepth 10000
theorem qvq (n sz : Nat) (es : List (List AV)) (g : Nat) : SObj.lo n (.row sz es g) = qi0 n es := by simp only [SObj.lo]
section
variable (c : Cfg) (n : Nat) (A : qaa) (O : List (List AV)) (hA : A.length = n + 1) (rest : List Evt) (et ei ep ea : Int) (ek : List Int) (i : Nat) (hi : i < n) (k : Int) (ov : Bool)
include hA
theorem qaci (alo : qd (n + 1) A = true) (olo : qi0 (n + 1) O = true) (X3 X5 : SObj) (lo3 : X3.lo (n + 1) = true) (lo5 : X5.lo (n + 1) = true) (G : List (List Int)) (out : List Evt) (nl : Bool)
    (hG : G.length ≤ 1000) (hGk : ∀ k ∈ G, k.length ≤ 9223372036854775807) (hD : (rest ++ out).length ≤ 1000000) (hk : qgo (rest ++ out)) (hd : q8w (rest ++ out))
    (env : Env) (h0 : Ev.look env.vars 0 = some (.ptr (n + 2) 0 0 0)) (h4 : Ev.look env.vars 4 = some (.fsl ((out).map Evt.r) nl)) (h7 : Ev.look env.vars 7 = some (.fn (.func qa0) [] [.ptr (n + 4) 1 0 0])) :
    ∃ env', exec (evL T) itL none cm9 env (A ++ [.row 1 O 0, (.row 10 [[(.fsl ((c.lps).map lpC) false), (.fsl ((c.progs).map qbm) false), (ii c.look), (ii c.fin), (ii c.cap), .sl (n + 1) 0 0 n false, .sl 0 1 0 n false, (.fsl ((rest).map Evt.r) false), (ii k), (bb ov)]] 0), X3, .row 1 [[(.fsl ((G).map qfe) false)]] 1, X5]) = some (.normal, env', A ++ [.row 1 O 0, (.row 10 [[(.fsl ((c.lps).map lpC) false), (.fsl ((c.progs).map qbm) false), (ii c.look), (ii c.fin), (ii c.cap), .sl (n + 1) 0 0 n false, .sl 0 1 0 n false, (.fsl (((qoj ((rest ++ out).filter (qda G)))).map Evt.r) false), (ii k), (bb ov)]] 0), X3, .row 1 [[(.fsl ((G).map qfe) false)]] 1, X5, .dead]) ∧
      env'.marks = env.marks := by
  obtain ⟨g, hc⟩ := q5o [rest, out] true (by simp) (by simpa using hD) (by simp)
  have hfl : [rest, out].flatten = rest ++ out := by simp
  rw [hfl] at hc
  have mono : ∀ {m : Nat}, n + 1 ≤ m → qd m A = true ∧ qi0 m O = true ∧ X3.lo m = true ∧ X5.lo m = true := fun h => ⟨qs7 h alo, qq0 h _ olo, qva h _ lo3, qva h _ lo5⟩
  obtain ⟨m1, m2, m3, m4⟩ := mono (m := n + 7) (by omega)
  obtain ⟨E, hE1, hE2, hE3⟩ := qaal (A ++ [.row 1 O 0, (.row 10 [[(.fsl ((c.lps).map lpC) false), (.fsl ((c.progs).map qbm) false), (ii c.look), (ii c.fin), (ii c.cap), .sl (n + 1) 0 0 n false, .sl 0 1 0 n false, (.fsl ((rest).map Evt.r) false), (ii k), (bb ov)]] 0), X3, .row 1 [[(.fsl ((G).map qfe) false)]] 1, X5, .row 6 ((rest ++ out).map Evt.r) g]) (n + 4) (n + 6) g (n + 7) G (rest ++ out)
    ⟨by rw [pre_g4 hA]; rfl, hG, hGk⟩ (by simp [hA]) (by
      have d1 : n + 1 < n + 7 := by omega
      have d0 : 0 < n + 7 := by omega
      rw [qrv, m1]
      simp only [qd, qvq, m2, m3, m4, qaq, qaf, qk, qj, qw, qay, qb2, qac, qbq, qb1, qa3, decide_true, d1, d0, zfc]) (by omega) (by omega) (by omega) (by rw [pre_g6 hA]; rfl) hD hk
  have hsub : ((rest ++ out).filter (qda G)).Sublist (rest ++ out) := List.filter_sublist
  have hs := qnf ((rest ++ out).filter (qda G)) false (by have := hsub.length_le; omega) (fun x hx => hk x (hsub.subset hx)) (List.Pairwise.sublist hsub hd)
  have tE : (E.map Evt.r).take ((rest ++ out).filter (qda G)).length = ((rest ++ out).filter (qda G)).map Evt.r := by rw [← List.map_take, hE2]
  have hEl : ((rest ++ out).filter (qda G)).length ≤ (E.map Evt.r).length := by rw [List.length_map]; exact hE1
  generalize (rest ++ out).filter (qda G) = F at hE3 hs tE hEl ⊢
  generalize rest ++ out = D at hc hE3
  rw [pre_s6 hA] at hE3
  simp only [List.map_cons, List.map_nil, qd8, List.set_cons_succ, List.set_cons_zero] at hc hE3
  simp only [List.length_map] at hEl
  have hrep : List.replicate 2 [(.fsl [] false : AV)] = [[.fsl [] false], [.fsl [] false]] := rfl
  simp only [qaa5, cm2', cm3', cm4', cm5', cm6', cm7', cm9, qsv, qap, hrep, h0, h4, h7, ql1 hA, pre_g6 hA, q52 hA, pre_s6 hA, hA, Nat.add_assoc, List.append_assoc, hc, hE3, hs, tE, hEl, qgj, qac, Nat.add_comm, Ev.exec, qb, qe, qc, qoo, qd2, Ev.item_F, Ev.giveG, q0w, q27, Ev.AV.shift, qag, q5b, Ev.evs, Ev.Opnd.ev, Ev.Env.get, Ev.Env.set, Ev.look, qh, qab, qh9, Ev.AV.cells, Ev.AV.uc, qv, Ev.AV.plain, qw, qj, qk, qaf, qaq, qgx, qfc, qgj, List.length_map, ↓qq, ↓reduceIte, List.length_cons, List.length_nil, List.length_append, List.getElem?_cons_zero, List.getElem?_cons_succ, List.take_succ_cons, List.take_zero, List.drop_succ_cons, List.drop_zero, List.cons_append, List.nil_append, List.set_cons_zero, List.set_cons_succ, List.head?_cons, Nat.reduceAdd, Nat.reduceEqDiff, Nat.reduceMul, Nat.reduceLT, Nat.reduceLeDiff, Nat.reducePow, reduceCtorEq, zfc, zfa, and_self, ne_eq, zfb, zff, zfd, Nat.add_zero, Nat.lt_add_one, eq_self]
  refine ⟨_, rfl, ?_⟩
  rfl
end
set_option maxRecDepth 10000
section
variable {c : Cfg} {s : Sim} {h : List Evt}
theorem qw4 (h : List Evt) (e : Evt) (i : Nat) : qnh (h ++ [e]) i = if e.lp = i then qnh h i ++ [e] else qnh h i := by
  unfold qnh
  rw [List.filter_append, List.filter_cons, List.filter_nil]
  by_cases k : e.lp = i
  · rw [if_pos k, if_pos (by simpa using k)]
  · rw [if_neg k, if_neg (by simpa using k), List.append_nil]
theorem badP_iff {c : Cfg} {q : Pr} (h : badP c q = false) : 0 ≤ q.prog ∧ q.prog < c.progs.length ∧ 0 ≤ q.pc ∧ q.pc ≤ ((c.progs[q.prog.toNat]?).getD []).length := by
  simp only [badP, Bool.not_eq_false', Bool.and_eq_true, decide_eq_true_eq] at h
  omega
theorem SInv.step (H : SInv c s h) {e : Evt} {rest : List Evt} (hp : s.pend = e :: rest) (hn : h.length ≤ 60) (hf : e.time < c.fin) : SInv c (s.step c e rest) (h ++ [e]) := by
  obtain ⟨x, hx, hlx, R⟩ := H.head hp hn
  have hkn := H.keyNe hp hn
  have ge := H.ev e (by rw [hp]; simp)
  have hxl := H.lp x (List.mem_of_getElem? hx)
  obtain ⟨X, oX, o1, o2⟩ := R.outs
  obtain ⟨z1, _, z3, _, _, _⟩ := R.sizes
  obtain ⟨t1, t2⟩ := R.tims (B := 2 + (h.length + 1)) (by have := ge.key; omega) (fun q hq => by have := (hxl.2 q hq).2.2.2.2; omega)
  obtain ⟨st1, st2⟩ := R.state
  rw [hlx] at hkn
  have hsub : ((rest ++ (qb6 c x e).out).filter (qda (qb6 c x e).gone)).Sublist (rest ++ (qb6 c x e).out) := List.filter_sublist
  have hmem : ∀ b, b ∈ qoj ((rest ++ (qb6 c x e).out).filter (qda (qb6 c x e).gone)) → b ∈ rest ∨ b ∈ (qb6 c x e).out := fun b hb => List.mem_append.1 (hsub.subset ((qlh _).mem_iff.1 hb))
  have hlpn : e.lp.toNat < c.lps.length := by have := ge.lp; omega
  have hout : ∀ b ∈ (qb6 c x e).out, ∃ k, EvOk c e X k b := fun b hb => by
    obtain ⟨k, hk⟩ := List.mem_iff_getElem?.1 hb
    exact ⟨k, o1 k b hk⟩
  have rev : ∀ b ∈ rest, b ∈ h ++ s.pend := fun b hb => by rw [hp]; simp [hb]
  have evOut : ∀ b ∈ (qb6 c x e).out, EvG c (h.length + 1) b := fun b hb => by
    obtain ⟨k, a1, ⟨m, hm, _⟩, a3, a4⟩ := hout b hb
    obtain ⟨u1, u2⟩ := t1 b hb
    have hkl : b.key.length = e.key.length + 1 := by rw [hm]; simp
    by_cases k3 : b.kind = 3
    · obtain ⟨c1, c2, _⟩ := a3 k3
      exact ⟨⟨c1, c2⟩, by have := ge.time; omega, by have := ge.key; omega, by rw [u1 k3]; omega, fun k2 => by omega⟩
    · obtain ⟨c1, c2, c3, c4⟩ := a4 k3
      rw [oX] at c3
      refine ⟨by rw [c1]; exact ge.lp, by have := ge.time; omega, by have := ge.key; omega, by omega, fun k2 => ?_⟩
      obtain ⟨q, p, _, hpp, _, d1, d2⟩ := u2 k2
      have := (H.valid.prog p (List.mem_of_getElem? hpp)).2.1
      omega
  have newProg : ∀ (j : Nat) (q : Pr), x.procs[j]? = some q → ∃ q', (qb6 c x e).lp.procs[j]? = some q' ∧ q'.prog = q.prog := fun j q hq => by
    have hj := (List.getElem?_eq_some_iff.1 hq).1
    obtain ⟨q', hq'⟩ : ∃ q', (qb6 c x e).lp.procs[j]? = some q' := ⟨_, List.getElem?_eq_getElem (by omega)⟩
    exact ⟨q', hq', ((st2 j q' hq').2.2 q hq).1⟩
  have setSelf : (s.lps.set e.lp.toNat (qb6 c x e).lp)[e.lp.toNat]? = some (qb6 c x e).lp := List.getElem?_set_self (by rw [H.lpl]; exact hlpn)
  have lee : ∀ b, b ∈ rest ∨ b ∈ (qb6 c x e).out → leE e b := fun b hb => by
    rcases hb with hb | hb
    · have := H.sorted; rw [hp, List.pairwise_cons] at this; exact this.1 b hb
    · obtain ⟨k, a1, _⟩ := hout b hb; exact leE_time a1.1
  unfold Sim.step
  rw [hlx]
  refine ⟨H.valid, by show s.n + 1 = _; rw [H.n]; simp, by show (s.trace.set _ _).length = _; rw [List.length_set]; exact H.trl, ?_, by show (s.lps.set _ _).length = _; rw [List.length_set]; exact H.lpl, ?_, qs2 _, ?_, ?_, ?_, ?_, ?_, ?_, ?_, ?_, ?_, ?_⟩
  · intro i hi
    show (s.trace.set e.lp.toNat (qk0 s e.lp ++ [e]))[i]? = _
    rw [qw4]
    by_cases k : e.lp = i
    · have : e.lp.toNat = i := by omega
      rw [if_pos k, this, List.getElem?_set_self (by rw [H.trl]; exact hi)]
      unfold qk0
      rw [this, H.tr i hi]; rfl
    · rw [if_neg k, List.getElem?_set_ne (by have := ge.lp; omega)]; exact H.tr i hi
  · intro y hy
    rw [List.length_append]
    rcases List.mem_or_eq_of_mem_set hy with hy | rfl
    · have := H.lp y hy
      exact ⟨this.1, fun q hq => by obtain ⟨a, b, d, f, g⟩ := this.2 q hq; exact ⟨a, b, d, f, by omega⟩⟩
    · refine ⟨z1, fun q hq => ?_⟩
      obtain ⟨j, hj⟩ := List.mem_iff_getElem?.1 hq
      obtain ⟨a, b, d, f⟩ := badP_iff (st2 j q hj).1
      exact ⟨a, b, d, f, t2 q hq⟩
  · show qsw ((h ++ [e]) ++ qoj _)
    exact qsw.perm (List.Pairwise.sublist (hsub.append_left _) hkn) ((qlh _).append_left _)
  · intro b hb
    rw [List.length_append]
    rcases List.mem_append.1 hb with hb | hb
    · refine (H.ev b ?_).mono (by simp)
      rcases List.mem_append.1 hb with hb | hb
      · exact List.mem_append_left _ hb
      · rw [List.mem_singleton] at hb; subst hb; rw [hp]; simp
    · rcases hmem b hb with hb | hb
      · exact (H.ev b (rev b hb)).mono (by simp)
      · exact evOut b hb
  · intro b hb hk
    show ∃ x' q p, (s.lps.set e.lp.toNat (qb6 c x e).lp)[b.lp.toNat]? = some x' ∧ _
    rcases hmem b hb with hb | hb
    · obtain ⟨x', q, p, h1, h2, h3, h4⟩ := H.tim b (by rw [hp]; exact List.mem_cons_of_mem _ hb) hk
      by_cases k : e.lp.toNat = b.lp.toNat
      · rw [← k] at h1; rw [hx] at h1; cases h1
        obtain ⟨q', g1, g2⟩ := newProg _ q h2
        exact ⟨_, q', p, by rw [← k]; exact setSelf, g1, by rw [g2]; exact h3, h4⟩
      · exact ⟨x', q, p, by rw [List.getElem?_set_ne k]; exact h1, h2, h3, h4⟩
    · obtain ⟨k, _, _, _, a4⟩ := hout b hb
      obtain ⟨c1, _⟩ := a4 (by omega)
      obtain ⟨q, p, g1, g2, g3, g4⟩ := (t1 b hb).2 hk
      obtain ⟨q', g5, g6⟩ := newProg _ q g1
      exact ⟨_, q', p, by rw [c1]; exact setSelf, by rw [g3]; exact g5, by rw [g6]; exact g2, g4⟩
  · intro b hb
    have old : b ∈ h ++ s.pend → b.key.length = 2 ∨ ∃ p ∈ h ++ [e], ∃ m, b.key = p.key ++ [m] ∧ p.time < b.time := fun hb => by
      rcases H.par b hb with g | ⟨p, g1, g2⟩
      · exact .inl g
      · exact .inr ⟨p, List.mem_append_left _ g1, g2⟩
    rcases List.mem_append.1 hb with hb | hb
    · refine old ?_
      rcases List.mem_append.1 hb with hb | hb
      · exact List.mem_append_left _ hb
      · rw [List.mem_singleton] at hb; subst hb; rw [hp]; simp
    · rcases hmem b hb with hb | hb
      · exact old (rev b hb)
      · obtain ⟨k, a1, ⟨m, hm, _⟩, _⟩ := hout b hb
        exact .inr ⟨e, by simp, m, hm, a1.1⟩
  · rw [List.pairwise_append]
    exact ⟨H.ord, List.pairwise_singleton _ _, fun a ha b hb => by rw [List.mem_singleton] at hb; subst hb; exact H.ord2 a ha b (by rw [hp]; simp)⟩
  · intro a ha b hb
    have hb' := hmem b hb
    rcases List.mem_append.1 ha with ha | ha
    · exact qof a e b (H.ord2 a ha e (by rw [hp]; simp)) (lee b hb')
    · rw [List.mem_singleton] at ha; subst ha; exact lee b hb'
  · intro a ha
    rcases List.mem_append.1 ha with ha | ha
    · exact H.fin a ha
    · rw [List.mem_singleton] at ha; subst ha; exact hf
  · show (qoj _).length ≤ _
    rw [(qlh _).length_eq]
    have h1 := hsub.length_le
    have h2 := H.len
    rw [hp] at h2
    simp only [List.length_append, List.length_cons, List.length_nil] at h1 h2 ⊢
    omega
  · intro i hi
    show (s.lps.set e.lp.toNat (qb6 c x e).lp)[i]? = _
    rw [qw4]
    by_cases k : e.lp = i
    · have hki : e.lp.toNat = i := by omega
      have hr := H.rep i hi
      rw [← hki, hx, hki] at hr
      rw [if_pos k]
      unfold qaaa at hr ⊢
      rw [List.foldl_append, List.foldl_cons, List.foldl_nil, ← Option.some.inj hr]
      have := setSelf; rw [hki] at this ⊢; exact this
    · rw [if_neg k, List.getElem?_set_ne (by have := ge.lp; omega)]; exact H.rep i hi
  · intro i hi k b hb
    rw [qw4] at hb ⊢
    by_cases hl : e.lp = i
    · rw [if_pos hl] at hb ⊢
      by_cases hk : k < (qnh h i).length
      · rw [List.getElem?_append_left hk] at hb
        rw [List.take_append_of_le_length (by omega)]
        exact H.rdy i hi k b hb
      · have hk2 := (List.getElem?_eq_some_iff.1 hb).1
        simp at hk2
        obtain rfl : k = (qnh h i).length := by omega
        simp at hb
        subst hb
        rw [List.take_append_of_le_length (Nat.le_refl _), List.take_length]
        have hr := H.rep i hi
        have hki : e.lp.toNat = i := by omega
        rw [← hki, hx, hki] at hr
        rw [← Option.some.inj hr]
        exact R
    · rw [if_neg hl] at hb ⊢
      exact H.rdy i hi k b hb
end
set_option maxRecDepth 10000
theorem q7h (lps : List (List Start)) : qsw (qie lps) := by
  have ne : ∀ {k k' i i' : Nat} {s s' : Start}, (qhg k i s).key = (qhg k' i' s').key → k = k' ∧ i = i' := by
    intro k k' i i' s s' h
    simp only [qhg, List.cons.injEq, and_true] at h
    omega
  unfold qsw qie
  rw [List.pairwise_flatten]
  constructor
  · intro r hr
    obtain ⟨k, hk⟩ := List.mem_iff_getElem?.1 hr
    rw [List.getElem?_mapIdx] at hk
    cases hl : lps[k]? with
    | none => rw [hl] at hk; cases hk
    | some l =>
      rw [hl] at hk; cases hk
      rw [List.pairwise_iff_getElem]
      intro i j hi hj hij h
      simp only [qih, List.getElem_mapIdx] at h
      have := (ne h).2; omega
  · rw [List.pairwise_iff_getElem]
    intro k k' hk hk' hkk x hx y hy h
    simp only [List.getElem_mapIdx] at hx hy
    obtain ⟨i, s, _, rfl⟩ := qqz hx
    obtain ⟨i', s', _, rfl⟩ := qqz hy
    have := (ne h).1; omega
section
variable {c : Cfg}
theorem q5g (c : Cfg) : (start c).lps = (q2b c.lps).map fun ps => (⟨0, 0, ps, 0⟩ : Lp) := by
  simp only [start, qic, List.map_map]; rfl
theorem SInv.start (hv : Valid c) : SInv c (start c) [] := by
  have hm : ∀ e ∈ qoj (qie c.lps), e ∈ qie c.lps := fun e he => (qlh _).mem_iff.1 he
  have hv1 := hv.lps
  refine ⟨hv, rfl, by simp [K.start], fun i hi => ?_, by rw [q5g]; simp [q2b], ?_, qs2 _, ?_, ?_, ?_, ?_, .nil, fun a ha => by simp at ha, fun e he => by simp at he, ?_, ?_, fun i hi k e he => by simp [qnh] at he⟩
  · simp [K.start, qnh, hi]
  · intro x hx
    rw [q5g, List.mem_map] at hx
    obtain ⟨ps, hps, rfl⟩ := hx
    simp only [q2b, List.mem_map] at hps
    obtain ⟨l, hl, rfl⟩ := hps
    refine ⟨by have := hv.lp l hl; simp; omega, fun q hq => ?_⟩
    simp only [List.mem_map] at hq
    obtain ⟨st, hst, rfl⟩ := hq
    obtain ⟨a, b, _⟩ := hv.start l hl st hst
    exact ⟨a, b, by simp [stP], by simp [stP], by simp [stP]⟩
  · rw [List.nil_append]; exact qsw.perm (q7h _) (qlh _)
  · intro e he
    rw [List.nil_append] at he
    obtain ⟨k, l, i, s, h1, h2, rfl⟩ := qwe (hm e he)
    have k1 := (List.getElem?_eq_some_iff.1 h1).1
    have k2 := (List.getElem?_eq_some_iff.1 h2).1
    have k3 := hv.lp l (List.mem_of_getElem? h1)
    obtain ⟨a, b, d, f⟩ := hv.start l (List.mem_of_getElem? h1) s (List.mem_of_getElem? h2)
    exact ⟨by simp only [qhg]; omega, ⟨d, f⟩, by simp [qhg], by simp only [qhg]; omega, fun hk => by simp [qhg] at hk⟩
  · intro e he hk
    obtain ⟨k, l, i, s, h1, h2, rfl⟩ := qwe (hm e he)
    simp [qhg] at hk
  · intro e he
    rw [List.nil_append] at he
    obtain ⟨k, l, i, s, h1, h2, rfl⟩ := qwe (hm e he)
    exact .inl (by simp [qhg])
  · show (qoj _).length ≤ _
    rw [(qlh _).length_eq]
    have := q57 (lps := c.lps) (m := 8) (fun l hl => hv.lp l hl)
    simp only [List.length_nil]; omega
  · intro i hi
    show ((qic c.lps).map Prod.fst)[i]? = _
    have : i < ((qic c.lps).map Prod.fst).length := by simp [qic, q2b]; exact hi
    rw [List.getElem?_eq_getElem this]; rfl
variable {s : Sim} {h : List Evt}
theorem qxr (hr : s.ready c = true) : ∃ e rest, s.pend = e :: rest ∧ e.time < c.fin := by
  unfold Sim.ready at hr
  split at hr
  · cases hr
  next e rest hp => exact ⟨e, rest, hp, of_decide_eq_true hr⟩
theorem go_eq {e : Evt} {rest : List Evt} (hp : s.pend = e :: rest) : s.go c = s.step c e rest := by unfold Sim.go; rw [hp]
theorem SInv.run : ∀ (k : Nat) {s : Sim} {h : List Evt}, SInv c s h → h.length + k ≤ 60 → ∃ h', SInv c (Sim.run c k s) (h ++ h') ∧ h'.length ≤ k ∧ (h'.length = k ∨ (Sim.run c k s).ready c = false)
  | 0, s, h, H, _ => ⟨[], by rw [List.append_nil]; exact H, Nat.le_refl _, .inl rfl⟩
  | k + 1, s, h, H, hk => by
    unfold Sim.run
    by_cases hr : s.ready c = true
    · rw [if_pos hr]
      obtain ⟨e, rest, hp, hf⟩ := qxr hr
      rw [go_eq hp]
      obtain ⟨h', g1, g2, g3⟩ := SInv.run k (H.step hp (by omega) hf) (by simp; omega)
      refine ⟨e :: h', by simpa using g1, by simp; omega, ?_⟩
      rcases g3 with g3 | g3
      · exact .inl (by simp; omega)
      · exact .inr g3
    · rw [if_neg hr]
      exact ⟨[], by rw [List.append_nil]; exact H, Nat.zero_le _, .inr (by simpa using hr)⟩
end
set_option maxRecDepth 10000
section
variable {c : Cfg} {s : Sim} {h : List Evt} {n : Nat} {L : List (Lp × Bool)} {A : qaa} {O : List (List AV)}
theorem SimSt.lpAt (S : SimSt n s L A O) {i : Nat} (hi : i < n) : ∃ f : Bool, L[i]? = some (K.lpAt s i, f) ∧ (f = true → (K.lpAt s i).procs = []) := by
  obtain ⟨x, hx⟩ : ∃ x, L[i]? = some x := ⟨_, List.getElem?_eq_getElem (by rw [S.lpl]; exact hi)⟩
  have h1 : s.lps[i]? = some x.1 := by rw [← S.lpf, List.getElem?_map, hx]; rfl
  have h2 : K.lpAt s i = x.1 := by unfold K.lpAt; rw [Int.toNat_natCast, h1]; rfl
  exact ⟨x.2, by rw [h2]; exact hx, fun hf => by rw [h2]; exact S.flag x (List.mem_of_getElem? hx) hf⟩
theorem trAt_set {s : Sim} {T' : List (List Evt)} {L' : List Lp} {P : List Evt} {m : Nat} {o : Bool} (i j : Nat) (t : List Evt) (hT : T' = s.trace.set i t) (hi : i < s.trace.length) : qk0 ⟨T', L', P, m, o⟩ (j : Int) = if i = j then t else qk0 s j := by
  unfold qk0
  simp only [Int.toNat_natCast]
  subst hT
  by_cases e : i = j
  · subst e; rw [List.getElem?_set_self hi, if_pos rfl]; rfl
  · rw [List.getElem?_set_ne e, if_neg e]
theorem SimSt.step (S : SimSt n s L A O) {e : Evt} {i : Nat} (hi : i < n) (he : e.lp = (i : Int)) {g : Nat} {f : Bool} (rest : List Evt) (hf : f = true → (qb6 c (K.lpAt s i) e).lp.procs = []) :
    SimSt n (s.step c e rest) (L.set i ((qb6 c (K.lpAt s i) e).lp, f)) ((A.set (i + 1) (.row 6 ((qk0 s i ++ [e]).map Evt.r) (g + 1))).set 0 (.row 4 ((L.set i ((qb6 c (K.lpAt s i) e).lp, f)).map lpF) 1)) (O.set i [.sl (i + 1) (g + 1) 0 ((qk0 s i).length + 1) false]) := by
  have hin : e.lp.toNat = i := by omega
  have c1 : i + 1 < n + 1 := by omega
  refine ⟨by rw [List.length_set, List.length_set]; exact S.len, ?_, by rw [List.length_set]; exact S.lpl, ?_, ?_, ?_, by rw [List.length_set]; exact S.ol, ?_, ?_, ?_⟩
  · rw [List.getElem?_set_self (by rw [List.length_set, S.len]; omega)]
  · rw [List.map_set, S.lpf]; show _ = s.lps.set e.lp.toNat (qb6 c (K.lpAt s e.lp) e).lp; rw [hin, he]
  · intro x hx
    rcases List.mem_or_eq_of_mem_set hx with hx | rfl
    · exact S.flag x hx
    · exact hf
  · show (s.trace.set _ _).length = n; rw [List.length_set]; exact S.trl
  · intro j hj
    obtain ⟨g', h1, h2⟩ := S.tr j hj
    have ht := trAt_set (s := s) (T' := (s.step c e rest).trace) (L' := (s.step c e rest).lps) (P := (s.step c e rest).pend) (m := (s.step c e rest).n) (o := (s.step c e rest).over) i j (qk0 s i ++ [e]) (by show s.trace.set e.lp.toNat (qk0 s e.lp ++ [e]) = _; rw [hin, he]) (by rw [S.trl]; exact hi)
    change qk0 (s.step c e rest) (j : Int) = _ at ht
    rw [ht]
    by_cases e1 : i = j
    · subst e1
      refine ⟨g + 1, ?_, ?_⟩
      · rw [if_pos rfl, List.getElem?_set_ne (by omega), List.getElem?_set_self (by rw [S.len]; omega)]
      · rw [if_pos rfl, List.getElem?_set_self (by rw [S.ol]; omega), List.length_append]; rfl
    · refine ⟨g', ?_, ?_⟩
      · rw [if_neg e1, List.getElem?_set_ne (by omega), List.getElem?_set_ne (by omega)]; exact h1
      · rw [if_neg e1, List.getElem?_set_ne e1]; exact h2
  · exact quy (quy S.alo _ (by rw [qvq]; exact qac _ _)) _ (by rw [qvq]; exact qkr _ _)
  · have := S.olo
    have hl : ∀ {n : Nat} {O : List (List AV)} (i : Nat) (x : List AV), qi0 n O = true → los n x = true → qi0 n (O.set i x) = true := by
      intro n O
      induction O with
      | nil => intro i x h _; exact h
      | cons a O ih =>
        intro i x h hx
        simp only [qaq, Bool.and_eq_true] at h
        cases i with
        | zero => rw [List.set_cons_zero, qaq, hx, h.2]; rfl
        | succ i => rw [List.set_cons_succ, qaq, h.1, ih i x h.2 hx]; rfl
    refine hl i _ this ?_
    simp only [qk, qj, qb2, c1, decide_true, zfc]
theorem q96 (H : SInv c s h) (hn : c.lps.length = n) (S : SimSt n s L A O) {e : Evt} {rest : List Evt} (hp : s.pend = e :: rest) (hh : h.length ≤ 60) :
    ∃ (L' : List (Lp × Bool)) (A' : qaa) (O' : List (List AV)), SimSt n (s.step c e rest) L' A' O' ∧
      (evL T).call qd0 [(.ptr (n + 2) 0 0 0)] (A ++ [.row 1 O 0, (.row 10 [[(.fsl ((c.lps).map lpC) false), (.fsl ((c.progs).map qbm) false), (ii c.look), (ii c.fin), (ii c.cap), .sl (n + 1) 0 0 n false, .sl 0 1 0 n false, (.fsl ((s.pend).map Evt.r) false), (ii s.n), (bb s.over)]] 0)]) = some (.tup [], (A' ++ [.row 1 O' 0, (.row 10 [[(.fsl ((c.lps).map lpC) false), (.fsl ((c.progs).map qbm) false), (ii c.look), (ii c.fin), (ii c.cap), .sl (n + 1) 0 0 n false, .sl 0 1 0 n false, (.fsl (((s.step c e rest).pend).map Evt.r) false), (ii ((s.step c e rest).n)), (bb ((s.step c e rest).over))]] 0)])) := by
  obtain ⟨x, hx, hlx, R⟩ := H.head hp hh
  have ge := H.ev e (by rw [hp]; simp)
  obtain ⟨i, hi⟩ : ∃ i : Nat, e.lp = i := ⟨_, (Int.toNat_of_nonneg ge.lp.1).symm⟩
  have hin : i < n := by have := ge.lp; omega
  obtain ⟨f, hL, hf⟩ := S.lpAt hin
  obtain ⟨g, t1, t2⟩ := S.tr i hin
  have hsz := R.sizes
  have hkn := H.keyNe hp hh
  rw [hi] at hlx hkn
  rw [hlx] at hL hf hkn
  obtain ⟨z1, _, z3, z4, z5, z6⟩ := hsz
  have hlen := H.len
  rw [hp] at hlen
  have htl : (qk0 s i).length ≤ 1000 := by
    have h1 := H.tr i (by omega)
    have : qk0 s i = qnh h i := by unfold qk0; rw [Int.toNat_natCast, h1]; rfl
    rw [this]
    have := List.length_filter_le (fun e : Evt => decide (e.lp = i)) h
    unfold qnh; omega
  have hE := Exec_evF R f hf
  have hkr : qsw (rest ++ (qb6 c x e).out) := by
    have := (List.pairwise_append.1 hkn).2.1; exact this
  have hko : qgo (rest ++ (qb6 c x e).out) := by
    intro y hy
    rcases List.mem_append.1 hy with hy | hy
    · have := (H.ev y (by rw [hp]; simp [hy])).key; omega
    · have := z4 y hy; omega
  have st := S.step (c := c) (e := e) hin hi (g := g) (f := f) rest (by rw [hlx]; exact fun k => q5u (hf k))
  rw [hlx] at st
  refine ⟨_, _, _, st, ?_⟩
  have hstep : s.step c e rest = ⟨s.trace.set i (qk0 s i ++ [e]), s.lps.set i (qb6 c x e).lp, qoj ((rest ++ (qb6 c x e).out).filter (qda (qb6 c x e).gone)), s.n + 1, s.over || (qb6 c x e).over⟩ := by
    unfold Sim.step; rw [hi, hlx, Int.toNat_natCast]
  rw [hstep, hp]
  have alo2 := st.alo
  have olo2 := st.olo
  have hA := S.len
  have hA0 := S.lps
  have lo3 : (SObj.row 6 [e.r] 0).lo (n + 1) = true := by simp only [qvq, qaq, qaf, q75, zfc]
  have hw : IntKind.i64.wrap ((s.n : Int) + 1) = ((s.n + 1 : Nat) : Int) := by
    have := H.n; rw [qao (by omega) (by omega)]; simp
  simp only
  generalize hr : qb6 c x e = r at *
  obtain ⟨et, ek, el, ei, ep, ea⟩ := e
  simp only at hi
  subst hi
  have hA1 : (A.set (i + 1) (SObj.row 6 ((qk0 s i ++ [(⟨et, ek, (i : Int), ei, ep, ea⟩ : Evt)]).map Evt.r) (g + 1))).length = n + 1 := by rw [List.length_set]; exact hA
  have hA2 : ((A.set (i + 1) (SObj.row 6 ((qk0 s i ++ [(⟨et, ek, (i : Int), ei, ep, ea⟩ : Evt)]).map Evt.r) (g + 1))).set 0 (SObj.row 4 ((L.set i (r.lp, f)).map lpF) 1)).length = n + 1 := by rw [List.length_set]; exact hA1
  have hA10 : (A.set (i + 1) (SObj.row 6 ((qk0 s i ++ [(⟨et, ek, (i : Int), ei, ep, ea⟩ : Evt)]).map Evt.r) (g + 1)))[0]? = some (.row 4 (L.map lpF) 1) := by rw [List.getElem?_set_ne (by omega)]; exact hA0
  have lo5 : (SObj.row 4 [lpF (r.lp, f)] 0).lo (n + 1) = true := by simp only [qvq, qaq, qaf, lpF_lo, zfc]
  obtain ⟨e1, r1, m1, a10, a12⟩ := qabf c n A O hA rest ⟨et, ek, i, ei, ep, ea⟩ s.n s.over ⟨qn 0 [(.ptr (n + 2) 0 0 0)], []⟩ rfl
  obtain ⟨e2, r2, m2, a20, a22⟩ := qabo c n A O hA rest ⟨et, ek, i, ei, ep, ea⟩ s.n s.over [.row 6 [Evt.r ⟨et, ek, i, ei, ep, ea⟩] 0, .hole] e1 a10 a12
  obtain ⟨e3, r3, m3, a30, a32⟩ := qaav c n A O hA rest et ei ep ea ek i s.n s.over hin (qk0 s i) g htl t2 t1 [.hole] e2 a20 a22
  obtain ⟨e4, r4, m4, a40, a42⟩ := qab3 c n _ (O.set i [.sl (i + 1) (g + 1) 0 ((qk0 s i).length + 1) false]) hA1 rest s.n s.over [(.row 6 [[(ii et), (.fsl ((ek).map qcm) false), (ii i), (ii ei), (ii ep), (ii ea)]] 0), .hole] e3 a30 a32
  rw [hw] at r4
  obtain ⟨e5, r5, m5, a50, a52, a53, a54, a55, a56⟩ := qacd c n _ (O.set i [.sl (i + 1) (g + 1) 0 ((qk0 s i).length + 1) false]) hA1 rest et ei ep ea ek i (s.n + 1 : Nat) s.over hin L x f hL hA10 r hE e4 a40 a42
  obtain ⟨e6, r6, m6, a60, a64, a65, a66⟩ := qaa8 c n _ (O.set i [.sl (i + 1) (g + 1) 0 ((qk0 s i).length + 1) false]) hA1 rest et ei ep ea ek i (s.n + 1 : Nat) s.over hin L (x, f) (r.lp, f) hL hA10 (.row 1 [[(.fsl ((r.gone).map qfe) false)]] 1) e5 a50 a52 a53 _ _ _ a54 a55 a56
  obtain ⟨e7, r7, m7, a70, a74, a75⟩ := qabu c n _ (O.set i [.sl (i + 1) (g + 1) 0 ((qk0 s i).length + 1) false]) hA2 rest (s.n + 1 : Nat) s.over [(.row 6 [[(ii et), (.fsl ((ek).map qcm) false), (ii i), (ii ei), (ii ep), (ii ea)]] 0), .row 1 [[(.fsl ((r.gone).map qfe) false)]] 1, .row 4 [lpF (r.lp, f)] 0] e6 a60 _ _ r.over a64 a65 a66
  obtain ⟨e8, r8, m8, a80, a84, a87⟩ := qab0 n _ hA2 (((A.set (i + 1) (SObj.row 6 ((qk0 s i ++ [(⟨et, ek, (i : Int), ei, ep, ea⟩ : Evt)]).map Evt.r) (g + 1))).set 0 (SObj.row 4 ((L.set i (r.lp, f)).map lpF) 1)) ++ [.row 1 (O.set i [.sl (i + 1) (g + 1) 0 ((qk0 s i).length + 1) false]) 0, (.row 10 [[(.fsl ((c.lps).map lpC) false), (.fsl ((c.progs).map qbm) false), (ii c.look), (ii c.fin), (ii c.cap), .sl (n + 1) 0 0 n false, .sl 0 1 0 n false, (.fsl ((rest).map Evt.r) false), (ii (((s.n + 1 : Nat) : Int))), (bb ((s.over || r.over)))]] 0), (.row 6 [[(ii et), (.fsl ((ek).map qcm) false), (ii i), (ii ei), (ii ep), (ii ea)]] 0), .row 1 [[(.fsl ((r.gone).map qfe) false)]] 1, .row 4 [lpF (r.lp, f)] 0]) e7 a70 _ _ a74 a75
  obtain ⟨e9, r9, m9⟩ := qaci c n _ (O.set i [.sl (i + 1) (g + 1) 0 ((qk0 s i).length + 1) false]) hA2 rest (s.n + 1 : Nat) (s.over || r.over) alo2 olo2 (.row 6 [[(ii et), (.fsl ((ek).map qcm) false), (ii i), (ii ei), (ii ep), (ii ea)]] 0) (.row 4 [lpF (r.lp, f)] 0) lo3 lo5 r.gone r.out r.nil (by omega) (fun k hk => by have := z5 k hk; omega) (by simp only [List.length_append, List.length_cons] at hlen ⊢; omega) hko hkr.dist e8 a80 a84 a87
  have hm : e9.marks = [] := by rw [m9, m8, m7, m6, m5, m4, m3, m2, m1]
  simp only [Evt.r] at r1 r2
  have hb := q6i
  rw [qs qou qnw]
  unfold qm
  rw [hb]
  have hcut := fun (B : qaa) => q3j hA2 B
  have lo1 : qd (n + 3) ((A.set (i + 1) (SObj.row 6 ((qk0 s i ++ [(⟨et, ek, (i : Int), ei, ep, ea⟩ : Evt)]).map Evt.r) (g + 1))).set 0 (SObj.row 4 ((L.set i (r.lp, f)).map lpF) 1)) = true := qs7 (by omega) alo2
  have lo2 : qi0 (n + 3) (O.set i [.sl (i + 1) (g + 1) 0 ((qk0 s i).length + 1) false]) = true := qq0 (by omega) _ olo2
  have d1 : n + 1 < n + 3 := by omega
  have d0 : 0 < n + 3 := by omega
  have hnl : (A ++ [SObj.row 1 O 0, (.row 10 [[(.fsl ((c.lps).map lpC) false), (.fsl ((c.progs).map qbm) false), (ii c.look), (ii c.fin), (ii c.cap), .sl (n + 1) 0 0 n false, .sl 0 1 0 n false, (.fsl ((({ time := et, key := ek, lp := ↑i, kind := ei, proc := ep, arg := ea } :: rest)).map Evt.r) false), (ii s.n), (bb s.over)]] 0)]).length = n + 3 := by simp [hA]
  have hna : qap.nargs = 1 := rfl
  have hres : qap.results = [] := rfl
  generalize ((A.set (i + 1) (SObj.row 6 ((qk0 s i ++ [(⟨et, ek, (i : Int), ei, ep, ea⟩ : Evt)]).map Evt.r) (g + 1))).set 0 (SObj.row 4 ((L.set i (r.lp, f)).map lpF) 1)) = A2 at *
  generalize (O.set i [.sl (i + 1) (g + 1) 0 ((qk0 s i).length + 1) false]) = O2 at *
  generalize qn 0 [(.ptr (n + 2) 0 0 0)] = av at *
  simp only [Ev.exec, r1, r2, r3, r4, r5, r6, r7, r8, r9, hm, hna, hres, hnl, hcut, Ev.kill, ql, qae, qad, qrv, qd, qvq, lo1, lo2, qaq, qaf, qk, qj, qw, qay, qb2, qbc, qac, qb1, qa3, d1, d0, decide_true, zfc, ↓qq, ↓reduceIte, List.length_cons, List.length_nil, zfd, List.take_succ_cons, List.take_zero, and_self]
  done
end
set_option maxRecDepth 10000
section
variable {c : Cfg} {s : Sim} {h : List Evt} {n : Nat} {L : List (Lp × Bool)} {A : qaa} {O : List (List AV)}
theorem q8k (hA : A.length = n + 1) : (evL T).call qdm [(.ptr (n + 2) 0 0 0)] (A ++ [.row 1 O 0, (.row 10 [[(.fsl ((c.lps).map lpC) false), (.fsl ((c.progs).map qbm) false), (ii c.look), (ii c.fin), (ii c.cap), .sl (n + 1) 0 0 n false, .sl 0 1 0 n false, (.fsl ((s.pend).map Evt.r) false), (ii s.n), (bb s.over)]] 0)]) = some ((bb (s.ready c)), (A ++ [.row 1 O 0, (.row 10 [[(.fsl ((c.lps).map lpC) false), (.fsl ((c.progs).map qbm) false), (ii c.look), (ii c.fin), (ii c.cap), .sl (n + 1) 0 0 n false, .sl 0 1 0 n false, (.fsl ((s.pend).map Evt.r) false), (ii s.n), (bb s.over)]] 0)])) := by
  rw [qs qpf qos]
  unfold Sim.ready
  cases hp : s.pend with
  | nil =>
    simp only [qe8, q3j hA, ql1 hA, hA, Nat.add_assoc, List.map_nil, gt_iff_lt, Int.lt_irrefl, ite_self, qm, Ev.exec, qb, qe, qc, qag, Ev.Opnd.ev, Ev.Env.get, Ev.Env.set, Ev.Env.unset, Ev.look, qn, qh, qab, qav, ql, qx, qae, Ev.kill, qad, qay, ↓qq, ↓reduceIte, List.length_cons, List.length_nil, List.length_append, List.getElem?_cons_zero, List.getElem?_cons_succ, List.take_succ_cons, zfe, List.drop_succ_cons, List.drop_zero, List.head?_cons, Nat.reduceAdd, Nat.reduceEqDiff, Int.cast_ofNat_Int, reduceCtorEq, decide_false, zfa, true_and, zfd, eq_self]
    done
  | cons e rest =>
    have c1 : ((rest.length + 1 : Nat) : Int) > 0 := by omega
    obtain ⟨et, ek, el, ei, ep, ea⟩ := e
    simp only [qe8, q3j hA, ql1 hA, hA, Nat.add_assoc, List.map_cons, Evt.r, c1, Int.le_refl, Int.toNat_zero, ite_self, qm, Ev.exec, qb, qe, qc, qag, Ev.Opnd.ev, Ev.Env.get, Ev.Env.set, Ev.look, qn, qh, qab, qo, qav, ql, qx, qae, Ev.kill, qad, qay, List.length_map, ↓qq, ↓reduceIte, List.length_cons, List.length_nil, List.length_append, List.getElem?_cons_zero, List.getElem?_cons_succ, List.take_succ_cons, zfe, List.drop_succ_cons, List.drop_zero, List.head?_cons, Nat.reduceAdd, Nat.reduceEqDiff, reduceCtorEq, decide_true, zfa, true_and, zfd, Nat.add_zero, eq_self]
    done
theorem SimSt.lo (S : SimSt n s L A O) : qd (n + 3) (A ++ [.row 1 O 0, (.row 10 [[(.fsl ((c.lps).map lpC) false), (.fsl ((c.progs).map qbm) false), (ii c.look), (ii c.fin), (ii c.cap), .sl (n + 1) 0 0 n false, .sl 0 1 0 n false, (.fsl ((s.pend).map Evt.r) false), (ii s.n), (bb s.over)]] 0)]) = true := by
  have lo1 : qd (n + 3) A = true := qs7 (by omega) S.alo
  have lo2 : qi0 (n + 3) O = true := qq0 (by omega) _ S.olo
  have d1 : n + 1 < n + 3 := by omega
  have d0 : 0 < n + 3 := by omega
  simp only [qrv, qd, qvq, lo1, lo2, qaq, qaf, qk, qj, qw, qay, qb2, qac, qb1, qa3, d1, d0, decide_true, zfc]
theorem run_L (hn : c.lps.length = n) (lim : Nat) (hlim : lim ≤ 60) : ∀ (k : Nat) {s : Sim} {h : List Evt} {L : List (Lp × Bool)} {A : qaa} {O : List (List AV)}, s.n + k = lim → SInv c s h → SimSt n s L A O →
    ∃ y, itB (exec (evL T) itL none qdb) (qr [0, 1] true (n + 3)) ⟨[(0, (.ptr (n + 2) 0 0 0)), (1, (ii lim))], []⟩ (A ++ [.row 1 O 0, (.row 10 [[(.fsl ((c.lps).map lpC) false), (.fsl ((c.progs).map qbm) false), (ii c.look), (ii c.fin), (ii c.cap), .sl (n + 1) 0 0 n false, .sl 0 1 0 n false, (.fsl ((s.pend).map Evt.r) false), (ii s.n), (bb s.over)]] 0)]) = some y ∧
      ∃ (L' : List (Lp × Bool)) (A' : qaa) (O' : List (List AV)), SimSt n (Sim.run c k s) L' A' O' ∧ y.1 = .exit 0 ∧ y.2.1.marks = [] ∧ y.2.2 = (A' ++ [.row 1 O' 0, (.row 10 [[(.fsl ((c.lps).map lpC) false), (.fsl ((c.progs).map qbm) false), (ii c.look), (ii c.fin), (ii c.cap), .sl (n + 1) 0 0 n false, .sl 0 1 0 n false, (.fsl (((Sim.run c k s).pend).map Evt.r) false), (ii ((Sim.run c k s).n)), (bb ((Sim.run c k s).over))]] 0)]) := by
  intro k
  induction k with
  | zero =>
    intro s h L A O hk H S
    have c1 : ¬ (s.n : Int) < (lim : Int) := by omega
    have hx : ∃ y, it1 (exec (evL T) itL none qdb) (qr [0, 1] true (n + 3)) ⟨[(0, (.ptr (n + 2) 0 0 0)), (1, (ii lim))], []⟩ (A ++ [.row 1 O 0, (.row 10 [[(.fsl ((c.lps).map lpC) false), (.fsl ((c.progs).map qbm) false), (ii c.look), (ii c.fin), (ii c.cap), .sl (n + 1) 0 0 n false, .sl 0 1 0 n false, (.fsl ((s.pend).map Evt.r) false), (ii s.n), (bb s.over)]] 0)]) = some (.inr y) ∧ y.1 = .exit 0 ∧ y.2.1.marks = [] ∧ y.2.2 = (A ++ [.row 1 O 0, (.row 10 [[(.fsl ((c.lps).map lpC) false), (.fsl ((c.progs).map qbm) false), (ii c.look), (ii c.fin), (ii c.cap), .sl (n + 1) 0 0 n false, .sl 0 1 0 n false, (.fsl ((s.pend).map Evt.r) false), (ii s.n), (bb s.over)]] 0)]) := by
      simp only [qdb, ql1 S.len, c1, Ev.exec, qb, qe, qc, qag, Ev.Opnd.ev, Ev.Env.get, Ev.Env.set, Ev.Env.unset, Ev.look, qh, qab, qo, ↓qq, Ev.it1, ↓reduceIte, List.getElem?_cons_zero, List.getElem?_cons_succ, List.drop_succ_cons, List.drop_zero, List.head?_cons, Nat.reduceEqDiff, reduceCtorEq, decide_false, zfa, zfd, eq_self]
      exact ⟨_, rfl, rfl, rfl, rfl⟩
    obtain ⟨y, h1, h2, h3, h4⟩ := hx
    exact ⟨y, qlt h1, L, A, O, S, h2, h3, h4⟩
  | succ k ih =>
    intro s h L A O hk H S
    have c1 : (s.n : Int) < (lim : Int) := by omega
    have hr := q8k (c := c) (s := s) (O := O) S.len
    by_cases hb : s.ready c = true
    · obtain ⟨e, rest, hp, hf⟩ := qxr hb
      have hhl : h.length ≤ 60 := by have := H.n; omega
      obtain ⟨L1, A1, O1, S1, hc⟩ := q96 H hn S hp hhl
      have hlo := S1.lo (c := c)
      have hcut := q3j S1.len [.row 1 O1 0, (.row 10 [[(.fsl ((c.lps).map lpC) false), (.fsl ((c.progs).map qbm) false), (ii c.look), (ii c.fin), (ii c.cap), .sl (n + 1) 0 0 n false, .sl 0 1 0 n false, (.fsl (((s.step c e rest).pend).map Evt.r) false), (ii ((s.step c e rest).n)), (bb ((s.step c e rest).over))]] 0)]
      obtain ⟨y, g1, g2⟩ := ih (s := s.step c e rest) (h := h ++ [e]) (by show s.n + 1 + k = lim; omega) (H.step hp hhl hf) S1
      rw [hb] at hr
      refine ⟨y, qkm ?_ g1, ?_⟩
      · have d2 : n + 2 < n + 3 := by omega
        simp only [List.take_succ_cons, List.take_zero] at hcut
        simp only [qdb, ql1 S.len, c1, hr, hc, hlo, hcut, d2, Ev.exec, qb, qe, qc, qd2, qag, Ev.evs, Ev.Opnd.ev, Ev.Env.get, Ev.Env.set, Ev.look, qh, qab, qo, qr, Ev.keep, qai, qy, qay, qlg, ↓qq, Ev.it1, ↓reduceIte, List.getElem?_cons_zero, List.getElem?_cons_succ, List.drop_succ_cons, List.drop_zero, List.head?_cons, Nat.reduceEqDiff, reduceCtorEq, decide_true, zfc, zfa, and_self, zfd, eq_self]
      · have : Sim.run c (k + 1) s = Sim.run c k (s.step c e rest) := by rw [Sim.run, if_pos hb, go_eq hp]
        rw [this]; exact g2
    · have hb' : s.ready c = false := by simpa using hb
      rw [hb'] at hr
      have : Sim.run c (k + 1) s = s := by rw [Sim.run, if_neg hb]
      rw [this]
      have hx : ∃ y, it1 (exec (evL T) itL none qdb) (qr [0, 1] true (n + 3)) ⟨[(0, (.ptr (n + 2) 0 0 0)), (1, (ii lim))], []⟩ (A ++ [.row 1 O 0, (.row 10 [[(.fsl ((c.lps).map lpC) false), (.fsl ((c.progs).map qbm) false), (ii c.look), (ii c.fin), (ii c.cap), .sl (n + 1) 0 0 n false, .sl 0 1 0 n false, (.fsl ((s.pend).map Evt.r) false), (ii s.n), (bb s.over)]] 0)]) = some (.inr y) ∧ y.1 = .exit 0 ∧ y.2.1.marks = [] ∧ y.2.2 = (A ++ [.row 1 O 0, (.row 10 [[(.fsl ((c.lps).map lpC) false), (.fsl ((c.progs).map qbm) false), (ii c.look), (ii c.fin), (ii c.cap), .sl (n + 1) 0 0 n false, .sl 0 1 0 n false, (.fsl ((s.pend).map Evt.r) false), (ii s.n), (bb s.over)]] 0)]) := by
        simp only [qdb, ql1 S.len, c1, hr, Ev.exec, qb, qe, qc, qd2, qag, Ev.evs, Ev.Opnd.ev, Ev.Env.get, Ev.Env.set, Ev.look, qh, qab, qo, ↓qq, Ev.it1, ↓reduceIte, List.getElem?_cons_zero, List.getElem?_cons_succ, List.drop_succ_cons, List.drop_zero, List.head?_cons, Nat.reduceEqDiff, reduceCtorEq, decide_true, zfa, zfd, eq_self]
        exact ⟨_, rfl, rfl, rfl, rfl⟩
      obtain ⟨y, h1, h2, h3, h4⟩ := hx
      exact ⟨y, qlt h1, L, A, O, S, h2, h3, h4⟩
end
set_option maxRecDepth 10000
def qcn (n l m : Int) : Bool := decide (n ≥ l) && decide (n ≤ m)
theorem qe9 (n l m : Int) : qaz (evL T) qbp [(ii n), (ii l), (ii m)] = some (bb (qcn n l m)) := by
  rw [qaz, qs qvs qu1]
  by_cases h1 : n ≥ l <;> simp only [qcn, qk2, h1, qm, Ev.exec, qb, qe, qc, qag, Ev.Opnd.ev, Ev.Env.get, Ev.Env.set, Ev.Env.unset, Ev.look, qn, qku, qb5, ql, qx, qae, Ev.kill, qad, qd, qay, qah, ↓qq, ↓reduceIte, List.length_cons, List.length_nil, zfe, Nat.reduceAdd, Nat.reduceEqDiff, reduceCtorEq, decide_true, decide_false, Bool.true_and, zfa, and_self, zfd, eq_self, Bool.false_and]
def operP (x : OpI) (n ps : Int) : Bool :=
  if x.code = 1 then qcn x.a 1 1099511627776 && (decide (x.b = 0) && decide (x.c = 0))
  else if x.code = 2 then decide (x.a ≥ 0) && (qcn x.b (-1073741824) 1073741824 && qcn x.c 1 1099511627776)
  else if x.code = 3 then qcn x.a 1 1099511627776 && (qcn x.b 0 (n - 1) && decide (x.c = 0))
  else if x.code = 5 then qcn x.a 0 (ps - 1) && (qcn x.b 1 1099511627776 && decide (x.c = 0))
  else if x.code = 6 then qcn x.a 0 1 && (qcn x.b (-1073741824) 1073741824 && decide (x.c = 0))
  else if x.code = 7 then qcn x.a 0 1 && (qcn x.b (-1073741824) 1073741824 && qcn x.c 0 (n - 1))
  else decide (x.a = 0) && (decide (x.b = 0) && decide (x.c = 0))
theorem operP_eq (x : OpI) (n ps : Int) : operP x n ps = qvc x n ps := by
  obtain ⟨k, a, b, c⟩ := x
  have e1 : ∀ a m : Int, qcn a 0 (m - 1) = (decide (a ≥ 0) && decide (a < m)) := fun a m => by
    unfold qcn; congr 1; exact decide_eq_decide.2 (by omega)
  have e2 : ∀ a : Int, qcn a 0 1 = (decide (a ≥ 0) && decide (a < 2)) := fun a => e1 a 2
  have e3 : ∀ a : Int, qcn a 1 1099511627776 = qsa a := fun a => rfl
  have e4 : ∀ a : Int, qcn a (-1073741824) 1073741824 = qvu a := fun a => rfl
  simp only [operP, qvc, e1, e2, e3, e4, Bool.and_assoc]
section
variable (n ps lps look : Int) (x : OpI)
def okZ (b : Bool) (e : Int) : Int := if b = true then 0 else e
theorem q1f : (evL T).call qa8 [(.agg [(ii n), (ii ps), (ii lps), (ii look)]), (.agg [(ii x.code), (ii x.a), (ii x.b), (ii x.c)])] [.row 4 [[(ii n), (ii ps), (ii lps), (ii look)]] 0, .row 4 [[(ii x.code), (ii x.a), (ii x.b), (ii x.c)]] 0] = some ((ii (okZ (qyx x) 22)), [.row 4 [[(ii n), (ii ps), (ii lps), (ii look)]] 0, .row 4 [[(ii x.code), (ii x.a), (ii x.b), (ii x.c)]] 0]) := by
  rw [qs qq1 qp1]
  have e : qyx x = qcn x.code 1 8 := rfl
  rw [e]
  cases h : qcn x.code 1 8 <;> simp only [qhf, qe9, h, okZ, qm, Ev.exec, qb, qe, qc, qaw, qag, Ev.evs, Ev.Opnd.ev, Ev.Env.get, Ev.Env.set, Ev.look, qn, qh, qab, Ev.AV.cells, qv, Ev.AV.plain, ql, qx, qae, Ev.kill, qad, qd, Ev.SObj.lo, qay, qj, qk, qaf, qaq, ↓qq, ↓reduceIte, List.length_cons, List.length_nil, List.take_succ_cons, zfe, List.drop_zero, List.head?_cons, Nat.reduceAdd, Nat.reduceEqDiff, reduceCtorEq, zfc, Bool.not_true, Bool.not_false, zfa, and_self, ne_eq, zfb, zff, zfd, eq_self]
theorem qw6 : (evL T).call qa1 [(.agg [(ii n), (ii ps), (ii lps), (ii look)]), (.agg [(ii x.code), (ii x.a), (ii x.b), (ii x.c)])] [.row 4 [[(ii n), (ii ps), (ii lps), (ii look)]] 0, .row 4 [[(ii x.code), (ii x.a), (ii x.b), (ii x.c)]] 0] = some ((ii (okZ (q7m lps x) 23)), [.row 4 [[(ii n), (ii ps), (ii lps), (ii look)]] 0, .row 4 [[(ii x.code), (ii x.a), (ii x.b), (ii x.c)]] 0]) := by
  rw [qs qpd qoy]
  by_cases h1 : x.code = 2 <;> by_cases h2 : x.a ≥ lps <;> simp only [qgk, q7m, h1, h2, okZ, qm, Ev.exec, qb, qe, qc, qag, Ev.Opnd.ev, Ev.Env.get, Ev.Env.set, Ev.Env.unset, Ev.look, qn, qh, qab, Ev.AV.cells, qv, Ev.AV.plain, qal, qb5, ql, qx, qae, Ev.kill, qad, qd, Ev.SObj.lo, qay, qj, qk, qaf, qaq, ↓qq, ↓reduceIte, List.length_cons, List.length_nil, List.take_succ_cons, zfe, List.drop_succ_cons, List.drop_zero, List.head?_cons, Nat.reduceAdd, Nat.reduceEqDiff, reduceCtorEq, decide_true, decide_false, zfc, Bool.and_true, Bool.not_true, Bool.not_false, zfa, and_self, ne_eq, zfb, zff, zfd, eq_self, Bool.and_false]
theorem qyd : (evL T).call qa4 [(.agg [(ii n), (ii ps), (ii lps), (ii look)]), (.agg [(ii x.code), (ii x.a), (ii x.b), (ii x.c)])] [.row 4 [[(ii n), (ii ps), (ii lps), (ii look)]] 0, .row 4 [[(ii x.code), (ii x.a), (ii x.b), (ii x.c)]] 0] = some ((ii (okZ (qo2 look x) 21)), [.row 4 [[(ii n), (ii ps), (ii lps), (ii look)]] 0, .row 4 [[(ii x.code), (ii x.a), (ii x.b), (ii x.c)]] 0]) := by
  rw [qs qp7 qpa]
  by_cases h1 : x.code = 2 <;> by_cases h2 : x.c < look <;> simp only [qgr, qo2, h1, h2, okZ, qm, Ev.exec, qb, qe, qc, qag, Ev.Opnd.ev, Ev.Env.get, Ev.Env.set, Ev.Env.unset, Ev.look, qn, qh, qab, Ev.AV.cells, qv, Ev.AV.plain, qal, qo, ql, qx, qae, Ev.kill, qad, qd, Ev.SObj.lo, qay, qj, qk, qaf, qaq, ↓qq, ↓reduceIte, List.length_cons, List.length_nil, List.take_succ_cons, zfe, List.drop_succ_cons, List.drop_zero, List.head?_cons, Nat.reduceAdd, Nat.reduceEqDiff, reduceCtorEq, decide_true, decide_false, zfc, Bool.and_true, Bool.not_true, Bool.not_false, zfa, and_self, ne_eq, zfb, zff, zfd, eq_self, Bool.and_false]
theorem quu (hn : IntKind.i64.wrap (n - 1) = n - 1) (hp : IntKind.i64.wrap (ps - 1) = ps - 1) :
    (evL T).call qau [(.agg [(ii n), (ii ps), (ii lps), (ii look)]), (.agg [(ii x.code), (ii x.a), (ii x.b), (ii x.c)])] [.row 4 [[(ii n), (ii ps), (ii lps), (ii look)]] 0, .row 4 [[(ii x.code), (ii x.a), (ii x.b), (ii x.c)]] 0] = some ((ii (okZ (qvc x n ps) 22)), [.row 4 [[(ii n), (ii ps), (ii lps), (ii look)]] 0, .row 4 [[(ii x.code), (ii x.a), (ii x.b), (ii x.c)]] 0]) := by
  rw [qs qn0 qm8, ← operP_eq]
  obtain ⟨k, a, b, c⟩ := x
  simp only [operP]
  have e0 : ∀ z : Int, ((0 : Int) == z) = decide (z = 0) := fun z => by rw [Bool.eq_iff_iff, beq_iff_eq, decide_eq_true_eq]; exact eq_comm
  by_cases k1 : k = 1
  · subst k1
    cases h1 : qcn a 1 1099511627776 <;> by_cases h2 : b = 0 <;> by_cases h3 : c = 0 <;> simp only [qbs, qe9, h1, h2, h3, e0, okZ, qm, Ev.exec, qb, qe, qc, qaw, qag, Ev.evs, Ev.Opnd.ev, Ev.Env.get, Ev.Env.set, Ev.Env.unset, Ev.look, qn, qh, qab, qff, Ev.AV.cells, Ev.AV.uc, qv, Ev.AV.plain, qal, qfy, ql, qx, qae, Ev.kill, qad, qd, Ev.SObj.lo, qay, qj, qk, qaf, qaq, ↓qq, ↓reduceIte, List.length_cons, List.length_nil, List.getElem?_cons_zero, List.getElem?_cons_succ, List.take_succ_cons, List.take_zero, zfe, List.drop_succ_cons, List.drop_zero, List.drop_nil, List.cons_append, List.nil_append, List.append_nil, List.set_cons_zero, List.set_cons_succ, List.head?_cons, Nat.reduceAdd, Nat.reduceEqDiff, Nat.reduceLeDiff, Int.reduceNeg, reduceCtorEq, decide_true, decide_false, zfc, Bool.and_true, Bool.not_true, Bool.not_false, zfa, Bool.true_eq_false, and_self, ne_eq, zfb, zff, zfd, Nat.le_refl, eq_self, beq_self_eq_true, Bool.and_false]
  by_cases k2 : k = 2
  · subst k2
    by_cases h1 : a ≥ 0 <;> cases h2 : qcn b (-1073741824) 1073741824 <;> cases h3 : qcn c 1 1099511627776 <;> simp only [qbs, qe9, h1, h2, h3, okZ, qm, Ev.exec, qb, qe, qc, qaw, qag, Ev.evs, Ev.Opnd.ev, Ev.Env.get, Ev.Env.set, Ev.Env.unset, Ev.look, qn, qh, qab, qff, Ev.AV.cells, Ev.AV.uc, qv, Ev.AV.plain, qal, qb5, qfy, ql, qx, qae, Ev.kill, qad, qd, Ev.SObj.lo, qay, qj, qk, qaf, qaq, ↓qq, ↓reduceIte, List.length_cons, List.length_nil, List.getElem?_cons_zero, List.getElem?_cons_succ, List.take_succ_cons, List.take_zero, zfe, List.drop_succ_cons, List.drop_zero, List.drop_nil, List.cons_append, List.nil_append, List.append_nil, List.set_cons_zero, List.set_cons_succ, List.head?_cons, Nat.reduceAdd, Nat.reduceEqDiff, Nat.reduceLeDiff, Int.reduceEq, Int.reduceNeg, reduceCtorEq, decide_true, decide_false, zfc, Bool.and_true, Bool.not_true, Bool.not_false, zfa, Bool.true_eq_false, and_self, ne_eq, zfb, zff, zfd, Nat.le_refl, eq_self, beq_self_eq_true, Bool.and_false]
  by_cases k3 : k = 3
  · subst k3
    cases h1 : qcn a 1 1099511627776 <;> cases h2 : qcn b 0 (n - 1) <;> by_cases h3 : c = 0 <;> simp only [qbs, qe9, hn, h1, h2, h3, e0, okZ, qm, Ev.exec, qb, qe, qc, qaw, qag, Ev.evs, Ev.Opnd.ev, Ev.Env.get, Ev.Env.set, Ev.Env.unset, Ev.look, qn, qh, qab, qff, Ev.AV.cells, Ev.AV.uc, qv, Ev.AV.plain, qce, qal, qfy, ql, qx, qae, Ev.kill, qad, qd, Ev.SObj.lo, qay, qj, qk, qaf, qaq, ↓qq, ↓reduceIte, List.length_cons, List.length_nil, List.getElem?_cons_zero, List.getElem?_cons_succ, List.take_succ_cons, List.take_zero, zfe, List.drop_succ_cons, List.drop_zero, List.drop_nil, List.cons_append, List.nil_append, List.append_nil, List.set_cons_zero, List.set_cons_succ, List.head?_cons, Nat.reduceAdd, Nat.reduceEqDiff, Nat.reduceLeDiff, Int.reduceEq, Int.reduceNeg, reduceCtorEq, decide_true, decide_false, zfc, Bool.and_true, Bool.not_true, Bool.not_false, zfa, Bool.true_eq_false, and_self, ne_eq, zfb, zff, zfd, Nat.le_refl, eq_self, beq_self_eq_true, Bool.and_false]
  by_cases k5 : k = 5
  · subst k5
    cases h1 : qcn a 0 (ps - 1) <;> cases h2 : qcn b 1 1099511627776 <;> by_cases h3 : c = 0 <;> simp only [qbs, qe9, hp, h1, h2, h3, e0, okZ, qm, Ev.exec, qb, qe, qc, qaw, qag, Ev.evs, Ev.Opnd.ev, Ev.Env.get, Ev.Env.set, Ev.Env.unset, Ev.look, qn, qh, qab, qff, Ev.AV.cells, Ev.AV.uc, qv, Ev.AV.plain, qce, qal, qfy, ql, qx, qae, Ev.kill, qad, qd, Ev.SObj.lo, qay, qj, qk, qaf, qaq, ↓qq, ↓reduceIte, List.length_cons, List.length_nil, List.getElem?_cons_zero, List.getElem?_cons_succ, List.take_succ_cons, List.take_zero, zfe, List.drop_succ_cons, List.drop_zero, List.drop_nil, List.cons_append, List.nil_append, List.append_nil, List.set_cons_zero, List.set_cons_succ, List.head?_cons, Nat.reduceAdd, Nat.reduceEqDiff, Nat.reduceLeDiff, Int.reduceEq, Int.reduceNeg, reduceCtorEq, decide_true, decide_false, zfc, Bool.and_true, Bool.not_true, Bool.not_false, zfa, Bool.true_eq_false, and_self, ne_eq, zfb, zff, zfd, Nat.le_refl, eq_self, beq_self_eq_true, Bool.and_false]
  by_cases k6 : k = 6
  · subst k6
    cases h1 : qcn a 0 1 <;> cases h2 : qcn b (-1073741824) 1073741824 <;> by_cases h3 : c = 0 <;> simp only [qbs, qe9, h1, h2, h3, e0, okZ, qm, Ev.exec, qb, qe, qc, qaw, qag, Ev.evs, Ev.Opnd.ev, Ev.Env.get, Ev.Env.set, Ev.Env.unset, Ev.look, qn, qh, qab, qff, Ev.AV.cells, Ev.AV.uc, qv, Ev.AV.plain, qal, qfy, ql, qx, qae, Ev.kill, qad, qd, Ev.SObj.lo, qay, qj, qk, qaf, qaq, ↓qq, ↓reduceIte, List.length_cons, List.length_nil, List.getElem?_cons_zero, List.getElem?_cons_succ, List.take_succ_cons, List.take_zero, zfe, List.drop_succ_cons, List.drop_zero, List.drop_nil, List.cons_append, List.nil_append, List.append_nil, List.set_cons_zero, List.set_cons_succ, List.head?_cons, Nat.reduceAdd, Nat.reduceEqDiff, Nat.reduceLeDiff, Int.reduceEq, Int.reduceNeg, reduceCtorEq, decide_true, decide_false, zfc, Bool.and_true, Bool.not_true, Bool.not_false, zfa, Bool.true_eq_false, and_self, ne_eq, zfb, zff, zfd, Nat.le_refl, eq_self, beq_self_eq_true, Bool.and_false]
  by_cases k7 : k = 7
  · subst k7
    cases h1 : qcn a 0 1 <;> cases h2 : qcn b (-1073741824) 1073741824 <;> cases h3 : qcn c 0 (n - 1) <;> simp only [qbs, qe9, hn, h1, h2, h3, okZ, qm, Ev.exec, qb, qe, qc, qaw, qag, Ev.evs, Ev.Opnd.ev, Ev.Env.get, Ev.Env.set, Ev.Env.unset, Ev.look, qn, qh, qab, qff, Ev.AV.cells, Ev.AV.uc, qv, Ev.AV.plain, qce, qal, qfy, ql, qx, qae, Ev.kill, qad, qd, Ev.SObj.lo, qay, qj, qk, qaf, qaq, ↓qq, ↓reduceIte, List.length_cons, List.length_nil, List.getElem?_cons_zero, List.getElem?_cons_succ, List.take_succ_cons, List.take_zero, zfe, List.drop_succ_cons, List.drop_zero, List.drop_nil, List.cons_append, List.nil_append, List.append_nil, List.set_cons_zero, List.set_cons_succ, List.head?_cons, Nat.reduceAdd, Nat.reduceEqDiff, Nat.reduceLeDiff, Int.reduceEq, Int.reduceNeg, reduceCtorEq, decide_true, decide_false, zfc, Bool.and_true, Bool.not_true, Bool.not_false, zfa, Bool.true_eq_false, and_self, ne_eq, zfb, zff, zfd, Nat.le_refl, eq_self, beq_self_eq_true, Bool.and_false]
  by_cases h1 : a = 0 <;> by_cases h2 : b = 0 <;> by_cases h3 : c = 0 <;> simp only [qbs, k1, k2, k3, k5, k6, k7, h1, h2, h3, e0, okZ, qm, Ev.exec, qb, qe, qc, qag, Ev.Opnd.ev, Ev.Env.get, Ev.Env.set, Ev.look, qn, qh, qab, qff, Ev.AV.cells, Ev.AV.uc, qv, Ev.AV.plain, qal, qfy, ql, qx, qae, Ev.kill, qad, qd, Ev.SObj.lo, qay, qj, qk, qaf, qaq, ↓qq, ↓reduceIte, List.length_cons, List.length_nil, List.getElem?_cons_zero, List.getElem?_cons_succ, List.take_succ_cons, List.take_zero, zfe, List.drop_succ_cons, List.drop_zero, List.drop_nil, List.cons_append, List.nil_append, List.append_nil, List.set_cons_zero, List.set_cons_succ, List.head?_cons, Nat.reduceAdd, Nat.reduceEqDiff, Nat.reduceLeDiff, Int.reduceNeg, reduceCtorEq, decide_true, decide_false, zfc, Bool.and_true, Bool.not_true, Bool.not_false, zfa, and_self, ne_eq, zfb, zff, zfd, Nat.le_refl, eq_self, beq_self_eq_true, Bool.and_false]
end
section
variable (p : List OpI) (c : Bool) (n ps lps look : Int)
def rulesL (n ps lps look : Int) : List (List AV) := [[.fn (.func qa8) [(.agg [(ii n), (ii ps), (ii lps), (ii look)])] []], [.fn (.func qau) [(.agg [(ii n), (ii ps), (ii lps), (ii look)])] []], [.fn (.func qa1) [(.agg [(ii n), (ii ps), (ii lps), (ii look)])] []], [.fn (.func qa4) [(.agg [(ii n), (ii ps), (ii lps), (ii look)])] []]]
theorem q5e (k : Nat) (j : Int) (f : OpI → Bool) (err : Int) (herr : err ≠ 0) (hl : p.length ≤ 16) (hr : ∀ x, (evL T).call k [(.agg [(ii n), (ii ps), (ii lps), (ii look)]), (.agg [(ii x.code), (ii x.a), (ii x.b), (ii x.c)])] [.row 4 [[(ii n), (ii ps), (ii lps), (ii look)]] 0, .row 4 [[(ii x.code), (ii x.a), (ii x.b), (ii x.c)]] 0] = some ((ii (okZ (f x) err)), [.row 4 [[(ii n), (ii ps), (ii lps), (ii look)]] 0, .row 4 [[(ii x.code), (ii x.a), (ii x.b), (ii x.c)]] 0])) :
    ∃ y, itB (exec (evL T) itL none qhu) (qr [0, 11, 33, 34, 35, 39, 40, 41] true 1) ⟨[(0, (.fsl ((p).map OpI.r) c)), (11, .fn (.func k) [(.agg [(ii n), (ii ps), (ii lps), (ii look)])] []), (33, (.fsl [[.fn (.func qa8) [(.agg [(ii n), (ii ps), (ii lps), (ii look)])] []], [.fn (.func qau) [(.agg [(ii n), (ii ps), (ii lps), (ii look)])] []], [.fn (.func qa1) [(.agg [(ii n), (ii ps), (ii lps), (ii look)])] []], [.fn (.func qa4) [(.agg [(ii n), (ii ps), (ii lps), (ii look)])] []]] true)), (34, (ii 4)), (35, (ii j)), (39, (.fsl ((p).map OpI.r) c)), (40, (ii p.length)), (41, (ii 0))], []⟩ [.row 4 [[(ii n), (ii ps), (ii lps), (ii look)]] 0] = some y ∧
      (p.all f = true ∧ (y.1 = .exit 2 ∧ y.2.1.marks = [] ∧ y.2.2 = [.row 4 [[(ii n), (ii ps), (ii lps), (ii look)]] 0] ∧ Ev.look y.2.1.vars 0 = some (.fsl ((p).map OpI.r) c) ∧ Ev.look y.2.1.vars 33 = some (.fsl [[.fn (.func qa8) [(.agg [(ii n), (ii ps), (ii lps), (ii look)])] []], [.fn (.func qau) [(.agg [(ii n), (ii ps), (ii lps), (ii look)])] []], [.fn (.func qa1) [(.agg [(ii n), (ii ps), (ii lps), (ii look)])] []], [.fn (.func qa4) [(.agg [(ii n), (ii ps), (ii lps), (ii look)])] []]] true) ∧ Ev.look y.2.1.vars 34 = some (ii 4) ∧ Ev.look y.2.1.vars 35 = some (ii j)) ∨
      p.all f = false ∧ ∃ x, p.find? (fun x => !f x) = some x ∧ (y.1 = .ret ∧ y.2.1.marks = [] ∧ y.2.2 = [.row 4 [[(ii n), (ii ps), (ii lps), (ii look)]] 0, .row 4 [[(ii x.code), (ii x.a), (ii x.b), (ii x.c)]] 0] ∧ Ev.look y.2.1.vars 8 = some (ii err))) := by
  refine qfd p (fun i => ⟨[(0, (.fsl ((p).map OpI.r) c)), (11, .fn (.func k) [(.agg [(ii n), (ii ps), (ii lps), (ii look)])] []), (33, (.fsl [[.fn (.func qa8) [(.agg [(ii n), (ii ps), (ii lps), (ii look)])] []], [.fn (.func qau) [(.agg [(ii n), (ii ps), (ii lps), (ii look)])] []], [.fn (.func qa1) [(.agg [(ii n), (ii ps), (ii lps), (ii look)])] []], [.fn (.func qa4) [(.agg [(ii n), (ii ps), (ii lps), (ii look)])] []]] true)), (34, (ii 4)), (35, (ii j)), (39, (.fsl ((p).map OpI.r) c)), (40, (ii p.length)), (41, (ii i))], []⟩) [.row 4 [[(ii n), (ii ps), (ii lps), (ii look)]] 0] f _ (fun x y => _) ?_ ?_ ?_
  · intro i x hi hx hp
    have hi' : (i : Int) < (p.length : Int) := by omega
    have hw : IntKind.i64.wrap ((i : Int) + 1) = ((i + 1 : Nat) : Int) := by rw [qao (by omega) (by omega)]; simp
    have h1 := hr x
    rw [hp] at h1
    simp only [okZ, if_true] at h1
    simp only [qhu, Int.natCast_nonneg, Int.toNat_natCast, List.getElem?_map, Option.map_some, OpI.r, hx, hi', hw, h1, qgm, Ev.exec, qb, qe, qc, qii, qag, Ev.evs, Ev.Opnd.ev, Ev.Env.get, Ev.Env.set, Ev.look, qh, qab, Ev.AV.cells, qv, Ev.AV.plain, qaj, qax, qo, qr, Ev.keep, qai, qy, qd, Ev.SObj.lo, qay, qbe, qw, qdj, qj, qk, qaf, qaq, ↓qq, Ev.it1, ↓reduceIte, List.length_cons, List.length_nil, List.getElem?_cons_zero, List.getElem?_cons_succ, List.take_succ_cons, List.take_zero, zfe, List.drop_succ_cons, List.drop_zero, List.drop_nil, List.cons_append, List.nil_append, List.append_nil, List.set_cons_zero, List.set_cons_succ, Nat.reduceAdd, Nat.reduceEqDiff, reduceCtorEq, decide_true, decide_false, zfc, zfa, and_self, ne_eq, zfb, not_true_eq_false, zff, zfd, Nat.le_refl, eq_self]
  · intro i x hi hx hp
    have hi' : (i : Int) < (p.length : Int) := by omega
    have h1 := hr x
    rw [hp] at h1
    simp only [okZ, zfa, if_false] at h1
    simp only [qhu, Int.natCast_nonneg, Int.toNat_natCast, List.getElem?_map, Option.map_some, OpI.r, hx, hi', h1, herr, Ev.exec, qb, qe, qc, qii, qag, Ev.evs, Ev.Opnd.ev, Ev.Env.get, Ev.Env.set, Ev.look, qh, qab, Ev.AV.cells, qv, Ev.AV.plain, qax, qo, ↓qq, Ev.it1, ↓reduceIte, List.length_cons, List.length_nil, List.getElem?_cons_zero, List.getElem?_cons_succ, List.take_succ_cons, List.take_zero, zfe, List.drop_succ_cons, List.drop_zero, List.drop_nil, List.cons_append, List.nil_append, List.append_nil, List.set_cons_zero, List.set_cons_succ, Nat.reduceAdd, Nat.reduceEqDiff, reduceCtorEq, decide_true, zfc, and_self, ne_eq, zfb, zff, zfd, Nat.le_refl, eq_self]
    exact ⟨_, rfl, rfl, rfl, rfl, rfl⟩
  · simp only [qhu, Int.lt_irrefl, Ev.exec, qb, qe, qc, qag, Ev.Opnd.ev, Ev.Env.get, Ev.Env.set, Ev.look, qo, ↓qq, Ev.it1, ↓reduceIte, Nat.reduceEqDiff, reduceCtorEq, decide_false, zfa, eq_self]
    exact ⟨_, rfl, rfl, rfl, rfl, rfl, rfl, rfl, rfl⟩
theorem qrj (hl : p.length ≤ 16) (j : Nat) (k : Nat) (f : OpI → Bool) (err : Int) (herr : err ≠ 0) (hj : (rulesL n ps lps look)[j]? = some [.fn (.func k) [(.agg [(ii n), (ii ps), (ii lps), (ii look)])] []]) (hr : ∀ x, (evL T).call k [(.agg [(ii n), (ii ps), (ii lps), (ii look)]), (.agg [(ii x.code), (ii x.a), (ii x.b), (ii x.c)])] [.row 4 [[(ii n), (ii ps), (ii lps), (ii look)]] 0, .row 4 [[(ii x.code), (ii x.a), (ii x.b), (ii x.c)]] 0] = some ((ii (okZ (f x) err)), [.row 4 [[(ii n), (ii ps), (ii lps), (ii look)]] 0, .row 4 [[(ii x.code), (ii x.a), (ii x.b), (ii x.c)]] 0])) :
    (p.all f = true ∧ it1 (exec (evL T) itL none qep) (qr [0, 33, 34, 35] true 1) ⟨[(0, (.fsl ((p).map OpI.r) c)), (33, (.fsl [[.fn (.func qa8) [(.agg [(ii n), (ii ps), (ii lps), (ii look)])] []], [.fn (.func qau) [(.agg [(ii n), (ii ps), (ii lps), (ii look)])] []], [.fn (.func qa1) [(.agg [(ii n), (ii ps), (ii lps), (ii look)])] []], [.fn (.func qa4) [(.agg [(ii n), (ii ps), (ii lps), (ii look)])] []]] true)), (34, (ii 4)), (35, (ii ((j : Int))))], []⟩ [.row 4 [[(ii n), (ii ps), (ii lps), (ii look)]] 0] = some (.inl (⟨[(0, (.fsl ((p).map OpI.r) c)), (33, (.fsl [[.fn (.func qa8) [(.agg [(ii n), (ii ps), (ii lps), (ii look)])] []], [.fn (.func qau) [(.agg [(ii n), (ii ps), (ii lps), (ii look)])] []], [.fn (.func qa1) [(.agg [(ii n), (ii ps), (ii lps), (ii look)])] []], [.fn (.func qa4) [(.agg [(ii n), (ii ps), (ii lps), (ii look)])] []]] true)), (34, (ii 4)), (35, (ii (((j + 1 : Nat) : Int))))], []⟩, [.row 4 [[(ii n), (ii ps), (ii lps), (ii look)]] 0]))) ∨
    (p.all f = false ∧ ∃ y, it1 (exec (evL T) itL none qep) (qr [0, 33, 34, 35] true 1) ⟨[(0, (.fsl ((p).map OpI.r) c)), (33, (.fsl [[.fn (.func qa8) [(.agg [(ii n), (ii ps), (ii lps), (ii look)])] []], [.fn (.func qau) [(.agg [(ii n), (ii ps), (ii lps), (ii look)])] []], [.fn (.func qa1) [(.agg [(ii n), (ii ps), (ii lps), (ii look)])] []], [.fn (.func qa4) [(.agg [(ii n), (ii ps), (ii lps), (ii look)])] []]] true)), (34, (ii 4)), (35, (ii ((j : Int))))], []⟩ [.row 4 [[(ii n), (ii ps), (ii lps), (ii look)]] 0] = some (.inr y) ∧ y.1 = .ret ∧ y.2.1.marks = [] ∧ (∃ x : OpI, y.2.2 = [.row 4 [[(ii n), (ii ps), (ii lps), (ii look)]] 0, .row 4 [[(ii x.code), (ii x.a), (ii x.b), (ii x.c)]] 0]) ∧ Ev.look y.2.1.vars 8 = some (ii err)) := by
  obtain ⟨⟨y, e, σ⟩, k1, k2⟩ := q5e p c n ps lps look k j f err herr hl hr
  have hj4 : j < 4 := (List.getElem?_eq_some_iff.1 hj).1
  have hi' : (j : Int) < 4 := by omega
  have hw : IntKind.i64.wrap ((j : Int) + 1) = ((j + 1 : Nat) : Int) := by rw [qao (by omega) (by omega)]; simp
  simp only [rulesL] at hj
  simp only at k2
  rcases k2 with ⟨q1, rfl, q2, rfl, q3, q4, q5, q6⟩ | ⟨q1, x, _, rfl, q2, rfl, q3⟩
  · refine .inl ⟨q1, ?_⟩
    simp only [qep, Int.natCast_nonneg, Int.toNat_natCast, hi', hw, hj, k1, q2, q3, q4, q5, q6, qgm, Ev.exec, qb, qe, qc, qag, Ev.Opnd.ev, Ev.Env.get, Ev.Env.set, Ev.look, qh, qab, qaj, qo, qr, Ev.keep, qai, qy, qd, Ev.SObj.lo, qay, qbe, qw, qdj, qj, qk, qaf, qaq, List.length_map, ↓qq, ↓qak, Ev.it1, ↓reduceIte, List.length_cons, List.length_nil, List.take_succ_cons, zfe, List.head?_cons, Nat.reduceEqDiff, reduceCtorEq, decide_true, zfc, zfa, and_self, zfd, eq_self]
  · refine .inr ⟨q1, ?_⟩
    simp only [qep, Int.natCast_nonneg, Int.toNat_natCast, hi', hj, k1, qgm, Ev.exec, qb, qe, qc, qag, Ev.Opnd.ev, Ev.Env.get, Ev.Env.set, Ev.look, qh, qab, qo, qr, Ev.keep, qai, qy, qd, Ev.SObj.lo, qay, qbe, qw, qdj, qj, qk, qaf, qaq, List.length_map, ↓qq, ↓qak, Ev.it1, ↓reduceIte, List.length_cons, List.length_nil, List.take_succ_cons, zfe, List.head?_cons, Nat.reduceEqDiff, reduceCtorEq, decide_true, zfc, zfa, and_self, zfd, eq_self]
    exact ⟨_, rfl, rfl, q2, ⟨x, rfl⟩, q3⟩
def qaaw : Int := if p.all qyx = false then 22 else if p.all (fun x => qvc x n ps) = false then 22 else if p.all (q7m lps) = false then 23 else if p.all (qo2 look) = false then 21 else 0
theorem q5j (hl : p.length ≤ 16) (hn : IntKind.i64.wrap (n - 1) = n - 1) (hp : IntKind.i64.wrap (ps - 1) = ps - 1) :
    ∃ y, itB (exec (evL T) itL none qep) (qr [0, 33, 34, 35] true 1) ⟨[(0, (.fsl ((p).map OpI.r) c)), (33, (.fsl [[.fn (.func qa8) [(.agg [(ii n), (ii ps), (ii lps), (ii look)])] []], [.fn (.func qau) [(.agg [(ii n), (ii ps), (ii lps), (ii look)])] []], [.fn (.func qa1) [(.agg [(ii n), (ii ps), (ii lps), (ii look)])] []], [.fn (.func qa4) [(.agg [(ii n), (ii ps), (ii lps), (ii look)])] []]] true)), (34, (ii 4)), (35, (ii 0))], []⟩ [.row 4 [[(ii n), (ii ps), (ii lps), (ii look)]] 0] = some y ∧
      (qaaw p n ps lps look = 0 ∧ (y.1 = .exit 0 ∧ y.2.1.marks = [] ∧ y.2.2 = [.row 4 [[(ii n), (ii ps), (ii lps), (ii look)]] 0]) ∨ (y.1 = .ret ∧ y.2.1.marks = [] ∧ (∃ x : OpI, y.2.2 = [.row 4 [[(ii n), (ii ps), (ii lps), (ii look)]] 0, .row 4 [[(ii x.code), (ii x.a), (ii x.b), (ii x.c)]] 0]) ∧ Ev.look y.2.1.vars 8 = some (ii (qaaw p n ps lps look)))) := by
  have s0 := qrj p c n ps lps look hl 0 qa8 qyx 22 (by decide) rfl (q1f n ps lps look)
  have s1 := qrj p c n ps lps look hl 1 qau (fun x => qvc x n ps) 22 (by decide) rfl (fun x => quu n ps lps look x hn hp)
  have s2 := qrj p c n ps lps look hl 2 qa1 (q7m lps) 23 (by decide) rfl (qw6 n ps lps look)
  have s3 := qrj p c n ps lps look hl 3 qa4 (qo2 look) 21 (by decide) rfl (qyd n ps lps look)
  have last : ∃ y, it1 (exec (evL T) itL none qep) (qr [0, 33, 34, 35] true 1) ⟨[(0, (.fsl ((p).map OpI.r) c)), (33, (.fsl [[.fn (.func qa8) [(.agg [(ii n), (ii ps), (ii lps), (ii look)])] []], [.fn (.func qau) [(.agg [(ii n), (ii ps), (ii lps), (ii look)])] []], [.fn (.func qa1) [(.agg [(ii n), (ii ps), (ii lps), (ii look)])] []], [.fn (.func qa4) [(.agg [(ii n), (ii ps), (ii lps), (ii look)])] []]] true)), (34, (ii 4)), (35, (ii 4))], []⟩ [.row 4 [[(ii n), (ii ps), (ii lps), (ii look)]] 0] = some (.inr y) ∧ y.1 = .exit 0 ∧ y.2.1.marks = [] ∧ y.2.2 = [.row 4 [[(ii n), (ii ps), (ii lps), (ii look)]] 0] := by
    simp only [qep, Int.lt_irrefl, Ev.exec, qb, qe, qc, qag, Ev.Opnd.ev, Ev.Env.get, Ev.Env.set, Ev.look, qo, ↓qq, Ev.it1, ↓reduceIte, Nat.reduceEqDiff, reduceCtorEq, decide_false, zfa, eq_self]
    exact ⟨_, rfl, rfl, rfl, rfl⟩
  unfold qaaw
  rcases s0 with ⟨a0, b0⟩ | ⟨a0, y, b0, b1, b2, b3, b4⟩
  · rcases s1 with ⟨a1, c0⟩ | ⟨a1, y, c0, c1, c2, c3, c4⟩
    · rcases s2 with ⟨a2, d0⟩ | ⟨a2, y, d0, d1, d2, d3, d4⟩
      · rcases s3 with ⟨a3, f0⟩ | ⟨a3, y, f0, f1, f2, f3, f4⟩
        · obtain ⟨y, l0, l1, l2, l3⟩ := last
          refine ⟨y, ?_, .inl ⟨by rw [a0, a1, a2, a3]; rfl, l1, l2, l3⟩⟩
          exact qkm b0 (qkm c0 (qkm d0 (qkm f0 (qlt l0))))
        · refine ⟨y, ?_, .inr ⟨f1, f2, f3, by rw [a0, a1, a2, a3]; exact f4⟩⟩
          exact qkm b0 (qkm c0 (qkm d0 (qlt f0)))
      · refine ⟨y, ?_, .inr ⟨d1, d2, d3, by rw [a0, a1, a2]; exact d4⟩⟩
        exact qkm b0 (qkm c0 (qlt d0))
    · refine ⟨y, ?_, .inr ⟨c1, c2, c3, by rw [a0, a1]; exact c4⟩⟩
      exact qkm b0 (qlt c0)
  · refine ⟨y, ?_, .inr ⟨b1, b2, b3, by rw [a0]; exact b4⟩⟩
    exact qlt b0
end
theorem qyh (p : List OpI) (c : Bool) (ps lps look : Int) (hl62 : p.length < 2 ^ 62) (hp : IntKind.i64.wrap (ps - 1) = ps - 1) : qaz (evL T) qil [(.fsl ((p).map OpI.r) c), (ii ps), (ii lps), (ii look)] = some (ii (qne p ps lps look)) := by
  have h0 := qe9 p.length 1 16
  rw [qaz, qs qxt qwd]
  have hz : qne p ps lps look = if 1 ≤ p.length ∧ p.length ≤ 16 then qaaw p p.length ps lps look else 22 := by
    unfold qne qaaw qsc
    by_cases h : 1 ≤ p.length ∧ p.length ≤ 16
    · simp only [h, and_self, decide_true, Bool.true_and, if_true]
    · simp only [h, decide_false, Bool.false_and, if_true, if_false]
  have hw : qcn p.length 1 16 = decide (1 ≤ p.length ∧ p.length ≤ 16) := by
    unfold qcn
    rw [← Bool.decide_and]
    exact decide_eq_decide.2 (by omega)
  rw [hw] at h0
  rw [hz]
  have hrep : List.replicate 4 ([.v .nilFunc] : List AV) = [[.v .nilFunc], [.v .nilFunc], [.v .nilFunc], [.v .nilFunc]] := rfl
  by_cases h : 1 ≤ p.length ∧ p.length ≤ 16
  · have hn : IntKind.i64.wrap ((p.length : Int) - 1) = (p.length : Int) - 1 := qao (by omega) (by omega)
    obtain ⟨⟨y, e, σ⟩, k1, k2⟩ := q5j p c p.length ps lps look h.2 hn hp
    simp only at k2
    simp only [h, and_self, decide_true] at h0
    rcases k2 with ⟨q1, rfl, q2, rfl⟩ | ⟨rfl, q2, ⟨x, rfl⟩, q3⟩
    · simp only [h, and_self, if_true, q1]
      simp only [qit, hrep, h0, k1, q2, qgm, qm, Ev.exec, qb, qe, qc, qaw, qag, Ev.evs, Ev.Opnd.ev, Ev.Env.get, Ev.Env.set, Ev.look, qn, qh, qab, qff, qh9, Ev.AV.cells, Ev.AV.uc, qv, Ev.AV.plain, ql, qx, qae, Ev.kill, qad, qr, Ev.keep, qai, qy, qd, Ev.SObj.lo, qay, qbe, qw, qdj, qj, qk, qaf, qaq, qah, List.length_map, ↓qq, ↓qak, ↓reduceIte, List.length_cons, List.length_nil, List.getElem?_cons_zero, List.take_succ_cons, List.take_zero, zfe, List.drop_succ_cons, List.drop_zero, List.drop_nil, List.cons_append, List.nil_append, List.append_nil, List.set_cons_zero, List.set_cons_succ, Nat.reduceAdd, Nat.reduceEqDiff, Nat.reduceMul, Nat.reduceLT, Nat.reduceLeDiff, Nat.reducePow, Int.cast_ofNat_Int, reduceCtorEq, zfc, Bool.not_true, zfa, and_self, ne_eq, zfb, zff, zfd, Nat.lt_add_one, Nat.le_refl, eq_self]
    · simp only [h, and_self, if_true]
      simp only [qit, hrep, h0, k1, q2, q3, qgm, qm, Ev.exec, qb, qe, qc, qaw, qag, Ev.evs, Ev.Opnd.ev, Ev.Env.get, Ev.Env.set, Ev.look, qn, qh, qab, qff, qh9, Ev.AV.cells, Ev.AV.uc, qv, Ev.AV.plain, ql, qx, qae, Ev.kill, qad, qr, Ev.keep, qai, qy, qd, Ev.SObj.lo, qay, qbe, qw, qdj, qj, qk, qaf, qaq, qah, List.length_map, ↓qq, ↓qak, ↓reduceIte, List.length_cons, List.length_nil, List.getElem?_cons_zero, List.take_succ_cons, List.take_zero, zfe, List.drop_succ_cons, List.drop_zero, List.drop_nil, List.cons_append, List.nil_append, List.append_nil, List.set_cons_zero, List.set_cons_succ, Nat.reduceAdd, Nat.reduceEqDiff, Nat.reduceMul, Nat.reduceLT, Nat.reduceLeDiff, Nat.reducePow, Int.cast_ofNat_Int, reduceCtorEq, zfc, Bool.not_true, zfa, and_self, ne_eq, zfb, zff, zfd, Nat.lt_add_one, Nat.le_refl, eq_self]
  · simp only [h, decide_false] at h0
    simp only [h, if_false]
    simp only [qit, h0, qm, Ev.exec, qb, qe, qc, qaw, qag, Ev.evs, Ev.Opnd.ev, Ev.Env.get, Ev.Env.set, Ev.look, qn, ql, qx, qae, Ev.kill, qad, qd, qay, qj, qk, qah, List.length_map, ↓qq, ↓reduceIte, List.length_cons, List.length_nil, zfe, Nat.reduceAdd, reduceCtorEq, zfc, Bool.not_false, and_self, zfd, eq_self]
end Go.Proofs.YthkjkdbjgpeigaaGreat.K
