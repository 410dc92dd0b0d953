/- Part of the proofs about this seat's program (module CSorts3). -/
import Derived.Test.YtbkabnhkclbepaaCSorts2
set_option linter.unusedSectionVars false
set_option linter.unusedSimpArgs false
set_option linter.unusedVariables false
namespace Go.Proofs.Ytbkabnhkclbepaa.K
open Go.Ev
set_option linter.unusedSimpArgs false
set_option linter.unusedVariables false
set_option maxRecDepth 10000
section
variable (g : Nat) (cl : Bool) (n : Nat) (V : List Int) (gw : Nat)
theorem pdq_st2 (hb : n < 2 ^ 61) (P A S1 B Q : List Int) (a b lim p : Nat) (h : Int) (wb wp : Bool) (ha : a = P.length + A.length) (hbb : b = a + S1.length) (hn : n = (P ++ (A ++ (S1 ++ (B ++ Q)))).length) (hS : 13 ≤ S1.length ∧ S1.length ≤ 16) (hp : a ≤ p ∧ p < b) (e : Env) (hm : e.marks = [])
    (e0 : Ev.look e.vars 0 = some (.sl 0 g 0 n cl)) (e1 : Ev.look e.vars 1 = some (.v (.int .i64 (a)))) (e2 : Ev.look e.vars 2 = some (.v (.int .i64 (b)))) (e3 : Ev.look e.vars 3 = some (.v (.int .i64 (lim)))) (e8 : Ev.look e.vars 8 = some (.v (.bool (wb)))) (e9 : Ev.look e.vars 9 = some (.v (.bool (wp)))) (e10 : Ev.look e.vars 10 = some (.v (.int .i64 (S1.length)))) (e11 : Ev.look e.vars 11 = some (.v (.int .i64 (p)))) (e12 : Ev.look e.vars 12 = some (.v (.int .i64 (h)))) :
    (∃ (y : CExit × Env × Store) (S2 : List Int), (∀ t, exec (evL T) itL none (pdqPre2 pdqT5 t) e [.row 1 ((P ++ (A ++ (S1 ++ (B ++ Q)))).map intC) g, .row 1 (V.map intC) gw] = some y) ∧ y.1 = .ret ∧ y.2.1.marks = [] ∧ S2.Perm S1 ∧ LeI S2 ∧ y.2.2 = [.row 1 ((P ++ (A ++ (S2 ++ (B ++ Q)))).map intC) g, .row 1 (V.map intC) gw]) ∨
    (∃ (e' : Env) (S2 : List Int) (p' : Nat), (∀ t, exec (evL T) itL none (pdqPre2 pdqT5 t) e [.row 1 ((P ++ (A ++ (S1 ++ (B ++ Q)))).map intC) g, .row 1 (V.map intC) gw] = exec (evL T) itL none t e' [.row 1 ((P ++ (A ++ (S2 ++ (B ++ Q)))).map intC) g, .row 1 (V.map intC) gw]) ∧ e'.marks = [] ∧ S2.Perm S1 ∧ a ≤ p' ∧ p' < b ∧
      Ev.look e'.vars 0 = some (.sl 0 g 0 n cl) ∧ Ev.look e'.vars 1 = some (.v (.int .i64 (a))) ∧ Ev.look e'.vars 2 = some (.v (.int .i64 (b))) ∧ Ev.look e'.vars 3 = some (.v (.int .i64 (lim))) ∧ Ev.look e'.vars 8 = some (.v (.bool (wb))) ∧ Ev.look e'.vars 9 = some (.v (.bool (wp))) ∧ Ev.look e'.vars 10 = some (.v (.int .i64 (S1.length))) ∧ Ev.look e'.vars 11 = some (.v (.int .i64 (p')))) := by
  have hlen : n = P.length + (A.length + (S1.length + (B.length + Q.length))) := by rw [hn]; simp
  by_cases h2 : h = 2
  · subst h2
    obtain ⟨S2, p1, r1⟩ := rev_ev g cl n V gw (P ++ A) S1 (B ++ Q) a b (by simp; omega) hbb (by omega) (by simp; omega) hb
    have hl := p1.length_eq
    simp only [List.append_assoc] at r1
    obtain ⟨c, hc⟩ : ∃ c, b = c + 1 := ⟨b - 1, by omega⟩
    obtain ⟨d, hd⟩ : ∃ d, p = a + d := ⟨p - a, by omega⟩
    obtain ⟨p', hp'⟩ : ∃ p', c = d + p' := ⟨c - d, by omega⟩
    have w1 : IntKind.i64.wrap ((b : Int) - 1) = (c : Int) := w64_sub1 hc (by omega)
    have w2 : IntKind.i64.wrap ((p : Int) - (a : Int)) = (d : Int) := w64_sub hd (by omega)
    have w3 : IntKind.i64.wrap ((c : Int) - (d : Int)) = (p' : Int) := w64_sub hp' (by omega)
    cases wb with
    | true =>
      cases wp with
      | true =>
        obtain ⟨r, q1, r2⟩ := pins_ev g cl n V gw (P ++ A) S2 (B ++ Q) a b (by simp; omega) (by omega) (by omega) (by simp; omega) hb
        simp only [List.append_assoc] at r2
        cases r with
        | true =>
          refine .inl ⟨?_, S2, fun t => ?_, ?_, ?_, p1, q1 rfl, ?_⟩
          case refine_2 =>
            simp only [pdqT5, pdqB, pdqPre2, c_slices_pdqsortOrdered_int_L1, hm, e0, e1, e2, e8, e9, e11, e12, r1, r2, w1, w2, w3, Go.Ev.exec, Go.Ev.evOpers, Go.Ev.evOper, Go.Ev.item_op, Go.Ev.item_I, Go.Ev.evOp, Go.Ev.evs, Go.Ev.Opnd.ev, Go.Ev.Env.get, Go.Ev.Env.set, Go.Ev.look, Go.Ev.bin_sub, Go.Ev.bin_eql, ↓Go.Ev.obind, ↓reduceIte, Nat.reduceEqDiff, reduceCtorEq, decide_true, eq_self]
            exact rfl
          all_goals rfl
        | false =>
          refine .inr ⟨?_, S2, p', fun t => ?_, ?_, p1, by omega, by omega, ?_⟩
          case refine_2 =>
            simp only [pdqT5, pdqB, pdqPre2, c_slices_pdqsortOrdered_int_L1, hm, e0, e1, e2, e8, e9, e11, e12, r1, r2, w1, w2, w3, Go.Ev.exec, Go.Ev.evOpers, Go.Ev.evOper, Go.Ev.item_op, Go.Ev.item_I, Go.Ev.evOp, Go.Ev.evs, Go.Ev.Opnd.ev, Go.Ev.Env.get, Go.Ev.Env.set, Go.Ev.look, Go.Ev.bin_sub, Go.Ev.bin_eql, ↓Go.Ev.obind, ↓reduceIte, Nat.reduceEqDiff, reduceCtorEq, decide_true, Bool.false_eq_true, eq_self]
            exact rfl
          case refine_3 => rfl
          case refine_4 => simp only [e0, e1, e2, e3, e8, e9, e10, Go.Ev.look, ↓reduceIte, Nat.reduceEqDiff, reduceCtorEq, and_self, eq_self]
      | false =>
        refine .inr ⟨?_, S2, p', fun t => ?_, ?_, p1, by omega, by omega, ?_⟩
        case refine_2 =>
          simp only [pdqT5, pdqB, pdqPre2, c_slices_pdqsortOrdered_int_L1, hm, e0, e1, e2, e8, e9, e11, e12, r1, w1, w2, w3, Go.Ev.exec, Go.Ev.evOpers, Go.Ev.evOper, Go.Ev.item_op, Go.Ev.item_I, Go.Ev.evOp, Go.Ev.evs, Go.Ev.Opnd.ev, Go.Ev.Env.get, Go.Ev.Env.set, Go.Ev.Env.unset, Go.Ev.look, Go.Ev.bin_sub, Go.Ev.bin_eql, ↓Go.Ev.obind, ↓reduceIte, Nat.reduceEqDiff, reduceCtorEq, decide_true, Bool.false_eq_true, eq_self]
          exact rfl
        case refine_3 => rfl
        case refine_4 => simp only [e0, e1, e2, e3, e8, e9, e10, Go.Ev.look, ↓reduceIte, Nat.reduceEqDiff, reduceCtorEq, and_self, eq_self]
    | false =>
      refine .inr ⟨?_, S2, p', fun t => ?_, ?_, p1, by omega, by omega, ?_⟩
      case refine_2 =>
        simp only [pdqT5, pdqB, pdqPre2, c_slices_pdqsortOrdered_int_L1, hm, e0, e1, e2, e8, e11, e12, r1, w1, w2, w3, Go.Ev.exec, Go.Ev.evOpers, Go.Ev.evOper, Go.Ev.item_op, Go.Ev.item_I, Go.Ev.evOp, Go.Ev.evs, Go.Ev.Opnd.ev, Go.Ev.Env.get, Go.Ev.Env.set, Go.Ev.Env.unset, Go.Ev.look, Go.Ev.bin_sub, Go.Ev.bin_eql, ↓Go.Ev.obind, ↓reduceIte, Nat.reduceEqDiff, reduceCtorEq, decide_true, Bool.false_eq_true, eq_self]
        exact rfl
      case refine_3 => rfl
      case refine_4 => simp only [e0, e1, e2, e3, e8, e9, e10, Go.Ev.look, ↓reduceIte, Nat.reduceEqDiff, reduceCtorEq, and_self, eq_self]
  by_cases h1 : h = 1
  · subst h1
    cases wb with
    | true =>
      cases wp with
      | true =>
        obtain ⟨r, q1, r2⟩ := pins_ev g cl n V gw (P ++ A) S1 (B ++ Q) a b (by simp; omega) (by omega) (by omega) (by simp; omega) hb
        simp only [List.append_assoc] at r2
        cases r with
        | true =>
          refine .inl ⟨?_, S1, fun t => ?_, ?_, ?_, .refl _, q1 rfl, ?_⟩
          case refine_2 =>
            simp only [pdqT5, pdqB, pdqPre2, c_slices_pdqsortOrdered_int_L1, hm, e0, e1, e2, e8, e9, e12, r2, Go.Ev.exec, Go.Ev.evOpers, Go.Ev.evOper, Go.Ev.item_op, Go.Ev.item_I, Go.Ev.evOp, Go.Ev.evs, Go.Ev.Opnd.ev, Go.Ev.Env.get, Go.Ev.Env.set, Go.Ev.look, Go.Ev.bin_eql, ↓Go.Ev.obind, ↓reduceIte, Nat.reduceEqDiff, Int.reduceEq, reduceCtorEq, decide_true, decide_false, Bool.false_eq_true, eq_self]
            exact rfl
          all_goals rfl
        | false =>
          refine .inr ⟨?_, S1, p, fun t => ?_, ?_, .refl _, hp.1, hp.2, ?_⟩
          case refine_2 =>
            simp only [pdqT5, pdqB, pdqPre2, c_slices_pdqsortOrdered_int_L1, hm, e0, e1, e2, e8, e9, e12, r2, Go.Ev.exec, Go.Ev.evOpers, Go.Ev.evOper, Go.Ev.item_op, Go.Ev.item_I, Go.Ev.evOp, Go.Ev.evs, Go.Ev.Opnd.ev, Go.Ev.Env.get, Go.Ev.Env.set, Go.Ev.look, Go.Ev.bin_eql, ↓Go.Ev.obind, ↓reduceIte, Nat.reduceEqDiff, Int.reduceEq, reduceCtorEq, decide_true, decide_false, Bool.false_eq_true, eq_self]
            exact rfl
          case refine_3 => rfl
          case refine_4 => simp only [e0, e1, e2, e3, e8, e9, e10, e11, Go.Ev.look, ↓reduceIte, Nat.reduceEqDiff, reduceCtorEq, and_self, eq_self]
      | false =>
        refine .inr ⟨?_, S1, p, fun t => ?_, ?_, .refl _, hp.1, hp.2, ?_⟩
        case refine_2 =>
          simp only [pdqT5, pdqB, pdqPre2, c_slices_pdqsortOrdered_int_L1, hm, e8, e9, e12, Go.Ev.exec, Go.Ev.evOpers, Go.Ev.evOper, Go.Ev.item_op, Go.Ev.evOp, Go.Ev.Opnd.ev, Go.Ev.Env.get, Go.Ev.Env.set, Go.Ev.Env.unset, Go.Ev.look, Go.Ev.bin_eql, ↓Go.Ev.obind, ↓reduceIte, Nat.reduceEqDiff, Int.reduceEq, decide_false, Bool.false_eq_true, eq_self]
          exact rfl
        case refine_3 => rfl
        case refine_4 => simp only [e0, e1, e2, e3, e8, e9, e10, e11, Go.Ev.look, ↓reduceIte, Nat.reduceEqDiff, reduceCtorEq, and_self, eq_self]
    | false =>
      refine .inr ⟨?_, S1, p, fun t => ?_, ?_, .refl _, hp.1, hp.2, ?_⟩
      case refine_2 =>
        simp only [pdqT5, pdqB, pdqPre2, c_slices_pdqsortOrdered_int_L1, hm, e8, e12, Go.Ev.exec, Go.Ev.evOpers, Go.Ev.evOper, Go.Ev.item_op, Go.Ev.evOp, Go.Ev.Opnd.ev, Go.Ev.Env.get, Go.Ev.Env.set, Go.Ev.Env.unset, Go.Ev.look, Go.Ev.bin_eql, ↓Go.Ev.obind, ↓reduceIte, Nat.reduceEqDiff, Int.reduceEq, decide_false, Bool.false_eq_true, eq_self]
        exact rfl
      case refine_3 => rfl
      case refine_4 => simp only [e0, e1, e2, e3, e8, e9, e10, e11, Go.Ev.look, ↓reduceIte, Nat.reduceEqDiff, reduceCtorEq, and_self, eq_self]
  · cases wb <;> cases wp <;>
    (refine .inr ⟨?_, S1, p, fun t => ?_, ?_, .refl _, hp.1, hp.2, ?_⟩
     case refine_2 =>
       simp only [pdqT5, pdqB, pdqPre2, c_slices_pdqsortOrdered_int_L1, hm, e8, e9, e12, h1, h2, Go.Ev.exec, Go.Ev.evOpers, Go.Ev.evOper, Go.Ev.item_op, Go.Ev.evOp, Go.Ev.Opnd.ev, Go.Ev.Env.get, Go.Ev.Env.set, Go.Ev.Env.unset, Go.Ev.look, Go.Ev.bin_eql, ↓Go.Ev.obind, ↓reduceIte, Nat.reduceEqDiff, decide_false, Bool.false_eq_true, eq_self]
       exact rfl
     case refine_3 => rfl
     case refine_4 => simp only [e0, e1, e2, e3, e8, e9, e10, e11, Go.Ev.look, ↓reduceIte, Nat.reduceEqDiff, reduceCtorEq, and_self, eq_self])
/-- Where a turn leads: a shorter piece. -/
structure Next (P S0 Q : List Int) (lim k : Nat) (y : CExit × Env × Store) : Prop where
  out : y.1 = .normal ∨ y.1 = .exit 1
  marks : y.2.1.marks = []
  next : ∃ (A S1 B : List Int) (wb wp : Bool) (a b : Nat), a = P.length + A.length ∧ b = a + S1.length ∧ G P S0 A S1 B ∧ S1.length < k ∧ y.2.2 = [.row 1 ((P ++ (A ++ (S1 ++ (B ++ Q)))).map intC) g, .row 1 (V.map intC) gw] ∧ Ev.look y.2.1.vars 0 = some (.sl 0 g 0 n cl) ∧ Ev.look y.2.1.vars 1 = some (.v (.int .i64 (a))) ∧ Ev.look y.2.1.vars 2 = some (.v (.int .i64 (b))) ∧ Ev.look y.2.1.vars 3 = some (.v (.int .i64 (lim))) ∧ Ev.look y.2.1.vars 8 = some (.v (.bool (wb))) ∧ Ev.look y.2.1.vars 9 = some (.v (.bool (wp)))
theorem pdq_tail (hb : n < 2 ^ 61) (P S0 A S1 B Q : List Int) (a b lim p : Nat) (wb wp : Bool) (IH : PdqAt g cl n V gw S1.length) (hG : G P S0 A S1 B) (ha : a = P.length + A.length) (hbb : b = a + S1.length) (hn : n = (P ++ (A ++ (S1 ++ (B ++ Q)))).length) (hS : 13 ≤ S1.length ∧ S1.length ≤ 16) (hlim : S1.length ≤ lim + 13) (hl2 : lim < 1000) (hp : a ≤ p ∧ p < b) (e : Env) (hm : e.marks = [])
    (e0 : Ev.look e.vars 0 = some (.sl 0 g 0 n cl)) (e1 : Ev.look e.vars 1 = some (.v (.int .i64 (a)))) (e2 : Ev.look e.vars 2 = some (.v (.int .i64 (b)))) (e3 : Ev.look e.vars 3 = some (.v (.int .i64 (lim)))) (e8 : Ev.look e.vars 8 = some (.v (.bool (wb)))) (e9 : Ev.look e.vars 9 = some (.v (.bool (wp)))) (e10 : Ev.look e.vars 10 = some (.v (.int .i64 (S1.length)))) (e11 : Ev.look e.vars 11 = some (.v (.int .i64 (p)))) :
    ∃ y, exec (evL T) itL none pdqT e [.row 1 ((P ++ (A ++ (S1 ++ (B ++ Q)))).map intC) g, .row 1 (V.map intC) gw] = some y ∧ Next g cl n V gw P S0 Q lim S1.length y := by
  have hlen : n = P.length + (A.length + (S1.length + (B.length + Q.length))) := by rw [hn]; simp
  obtain ⟨D, hD⟩ : ∃ D, D = P ++ (A ++ (S1 ++ (B ++ Q))) := ⟨_, rfl⟩
  have hDl : D.length = n := by rw [hD]; exact hn.symm
  obtain ⟨v, hv⟩ : ∃ v, D[p]? = some v := ⟨_, List.getElem?_eq_getElem (by omega)⟩
  have rp : p < n := by omega
  have hv1 : v ∈ S1 := by
    have : D[p]? = S1[p - a]? := get_in (L := P ++ A) (M := B ++ Q) (by rw [hD]; simp) (by omega) (by simp; omega)
    rw [hv] at this
    exact List.mem_of_getElem? this.symm
  obtain ⟨q, hq⟩ : ∃ q, q = S1.length / 8 := ⟨_, rfl⟩
  have w8 : IntKind.i64.wrap ((S1.length : Int).tdiv 8) = (q : Int) := by
    rw [show (S1.length : Int).tdiv 8 = (q : Int) by rw [Int.tdiv_eq_ediv_of_nonneg (by omega)]; omega]; exact w64_small (by omega) (by omega)
  -- the parting, with its two ways on
  have part : ∀ (c1 : (∃ m u, a = m + 1 ∧ D[m]? = some u ∧ u < v) ∨ a = 0), ∃ y, exec (evL T) itL none pdqT e [.row 1 ((D).map intC) g, .row 1 (V.map intC) gw] = some y ∧ Next g cl n V gw P S0 Q lim S1.length y := by
    intro c1
    obtain ⟨L, R, v', r, f1, f2, f3, f4⟩ := part_ev g cl n V gw (P ++ A) S1 (B ++ Q) a b p (by simp; omega) hbb hp (by simp; omega) hb
    have hl := f1.length_eq
    simp only [List.length_append, List.length_cons] at hl
    simp only [List.append_assoc, List.cons_append] at f4
    rw [← hD] at f4
    have w1 : IntKind.i64.wrap (((a + L.length : Nat) : Int) - (a : Int)) = (L.length : Int) := w64_sub rfl (by omega)
    have w2 : IntKind.i64.wrap ((b : Int) - ((a + L.length : Nat) : Int)) = ((R.length + 1 : Nat) : Int) := w64_sub (by omega) (by omega)
    have w3 : IntKind.i64.wrap (((a + L.length : Nat) : Int) + 1) = ((a + L.length + 1 : Nat) : Int) := w64_add1 (by omega)
    by_cases hlr : L.length < R.length + 1
    · have c2 : (L.length : Int) < ((R.length + 1 : Nat) : Int) := by omega
      obtain ⟨L', g1, g2, g3⟩ := IH (P ++ A) L (v' :: (R ++ (B ++ Q))) a (a + L.length) lim (by omega) (by omega) (by omega) (by simp; omega) rfl (by simp; omega) (fun u hu x hx => hG.pre u hu x (f1.mem_iff.1 (List.mem_append_left _ hx))) hl2
      simp only [List.append_assoc] at g3
      have hl' := g1.length_eq
      have hG2 := hG.left f1 f2 f3 g1 g2
      rcases c1 with ⟨m, u, hm1, hu, huv⟩ | h0
      · have c3 : (a : Int) > 0 := by omega
        have w4 : IntKind.i64.wrap ((a : Int) - 1) = (m : Int) := w64_sub1 hm1 (by omega)
        have hc := cmp_Less_ev u v
        simp only [huv, decide_true] at hc
        have rm : m < n := by omega
        refine Exists.intro ?y_1 (And.intro ?h1_1 ?h2_1)
        case h1_1 =>
          simp only [pdqT, pdqT5, pdqB, c_slices_pdqsortOrdered_int_L1, Int.natCast_nonneg, Int.toNat_natCast, List.getElem?_map, Option.map_some, hm, e0, e1, e2, e3, e10, e11, f4, w1, w2, w3, w8, c2, g3, hv, rp, c3, w4, hu, rm, hc, intC, Go.Ev.exec, Go.Ev.evOpers, Go.Ev.evOper, Go.Ev.item_op, Go.Ev.item_P, Go.Ev.item_I, Go.Ev.evOp, Go.Ev.evs, Go.Ev.Opnd.ev, Go.Ev.Env.get, Go.Ev.Env.set, Go.Ev.look, Go.Ev.cellsAt, Go.Ev.loadC, Go.Ev.bin_add, Go.Ev.bin_sub, Go.Ev.bin_quo, Go.Ev.bin_lss, Go.Ev.bin_gtr, Go.Ev.bin_geq, Go.Ev.lo_v, Go.Ev.los_nil, Go.Ev.los_cons, ↓Go.Ev.obind, ↓reduceIte, List.getElem?_cons_zero, List.getElem?_cons_succ, List.drop_zero, List.head?_cons, Nat.reduceEqDiff, Int.reduceEq, reduceCtorEq, decide_true, Bool.and_self, Bool.not_true, Bool.false_eq_true, and_self, Nat.zero_add, eq_self]
          exact rfl
        case h2_1 =>
          refine ⟨.inl rfl, rfl, A ++ (L' ++ [v']), R, B, decide ((L.length : Int) ≥ (q : Int)), r, a + L.length + 1, b, by first | omega | (simp; omega), by first | omega | (simp; omega), hG2, by omega, ?_, ?_⟩
          · simp only [List.append_assoc, List.cons_append, List.nil_append]
          · simp only [e0, e2, e3, Go.Ev.look, ↓reduceIte, Nat.reduceEqDiff, reduceCtorEq, and_self, eq_self]
      · have c3 : ¬ (a : Int) > 0 := by omega
        refine Exists.intro ?y_2 (And.intro ?h1_2 ?h2_2)
        case h1_2 =>
          simp only [pdqT, pdqT5, pdqB, c_slices_pdqsortOrdered_int_L1, hm, e0, e1, e2, e3, e10, e11, f4, w1, w2, w3, w8, c2, g3, c3, Go.Ev.exec, Go.Ev.evOpers, Go.Ev.evOper, Go.Ev.item_op, Go.Ev.item_I, Go.Ev.evOp, Go.Ev.evs, Go.Ev.Opnd.ev, Go.Ev.Env.get, Go.Ev.Env.set, Go.Ev.Env.unset, Go.Ev.look, Go.Ev.bin_add, Go.Ev.bin_sub, Go.Ev.bin_quo, Go.Ev.bin_lss, Go.Ev.bin_gtr, Go.Ev.bin_geq, ↓Go.Ev.obind, ↓reduceIte, List.getElem?_cons_zero, List.getElem?_cons_succ, Nat.reduceEqDiff, Int.reduceEq, reduceCtorEq, decide_true, decide_false, Bool.false_eq_true, eq_self]
          exact rfl
        case h2_2 =>
          refine ⟨.inl rfl, rfl, A ++ (L' ++ [v']), R, B, decide ((L.length : Int) ≥ (q : Int)), r, a + L.length + 1, b, by first | omega | (simp; omega), by first | omega | (simp; omega), hG2, by omega, ?_, ?_⟩
          · simp only [List.append_assoc, List.cons_append, List.nil_append]
          · simp only [e0, e2, e3, Go.Ev.look, ↓reduceIte, Nat.reduceEqDiff, reduceCtorEq, and_self, eq_self]
    · have c2 : ¬ (L.length : Int) < ((R.length + 1 : Nat) : Int) := by omega
      obtain ⟨R', g1, g2, g3⟩ := IH (P ++ (A ++ (L ++ [v']))) R (B ++ Q) (a + L.length + 1) b lim (by omega) (by omega) (by omega) (by simp; omega) (by omega) (by simp; omega) (fun u hu x hx => by
        rw [← List.append_assoc, ← List.append_assoc] at hu
        have := last_snoc (Y := [v']) (by simp) hu
        rw [List.mem_singleton] at this; subst this
        have := f3 x hx; omega) hl2
      simp only [List.append_assoc, List.cons_append, List.nil_append] at g3
      have hl' := g1.length_eq
      have hG2 := hG.right f1 f2 f3 g1 g2
      rcases c1 with ⟨m, u, hm1, hu, huv⟩ | h0
      · have c3 : (a : Int) > 0 := by omega
        have w4 : IntKind.i64.wrap ((a : Int) - 1) = (m : Int) := w64_sub1 hm1 (by omega)
        have hc := cmp_Less_ev u v
        simp only [huv, decide_true] at hc
        have rm : m < n := by omega
        refine Exists.intro ?y_3 (And.intro ?h1_3 ?h2_3)
        case h1_3 =>
          simp only [pdqT, pdqT5, pdqB, c_slices_pdqsortOrdered_int_L1, Int.natCast_nonneg, Int.toNat_natCast, List.getElem?_map, Option.map_some, hm, e0, e1, e2, e3, e10, e11, f4, w1, w2, w3, w8, c2, g3, hv, rp, c3, w4, hu, rm, hc, intC, Go.Ev.exec, Go.Ev.evOpers, Go.Ev.evOper, Go.Ev.item_op, Go.Ev.item_P, Go.Ev.item_I, Go.Ev.evOp, Go.Ev.evs, Go.Ev.Opnd.ev, Go.Ev.Env.get, Go.Ev.Env.set, Go.Ev.look, Go.Ev.cellsAt, Go.Ev.loadC, Go.Ev.bin_add, Go.Ev.bin_sub, Go.Ev.bin_quo, Go.Ev.bin_lss, Go.Ev.bin_gtr, Go.Ev.bin_geq, Go.Ev.lo_v, Go.Ev.los_nil, Go.Ev.los_cons, ↓Go.Ev.obind, ↓reduceIte, List.getElem?_cons_zero, List.getElem?_cons_succ, List.drop_zero, List.head?_cons, Nat.reduceEqDiff, Int.reduceEq, reduceCtorEq, decide_true, decide_false, Bool.and_self, Bool.not_true, Bool.false_eq_true, and_self, Nat.zero_add, eq_self]
          exact rfl
        case h2_3 =>
          refine ⟨.inl rfl, rfl, A, L, v' :: R' ++ B, decide (((R.length + 1 : Nat) : Int) ≥ (q : Int)), r, a, a + L.length, by first | omega | (simp; omega), by first | omega | (simp; omega), hG2, by omega, ?_, ?_⟩
          · simp only [List.append_assoc, List.cons_append]
          · simp only [e0, e1, e3, Go.Ev.look, ↓reduceIte, Nat.reduceEqDiff, reduceCtorEq, and_self, eq_self]
      · have c3 : ¬ (a : Int) > 0 := by omega
        refine Exists.intro ?y_4 (And.intro ?h1_4 ?h2_4)
        case h1_4 =>
          simp only [pdqT, pdqT5, pdqB, c_slices_pdqsortOrdered_int_L1, hm, e0, e1, e2, e3, e10, e11, f4, w1, w2, w3, w8, c2, g3, c3, Go.Ev.exec, Go.Ev.evOpers, Go.Ev.evOper, Go.Ev.item_op, Go.Ev.item_I, Go.Ev.evOp, Go.Ev.evs, Go.Ev.Opnd.ev, Go.Ev.Env.get, Go.Ev.Env.set, Go.Ev.Env.unset, Go.Ev.look, Go.Ev.bin_add, Go.Ev.bin_sub, Go.Ev.bin_quo, Go.Ev.bin_lss, Go.Ev.bin_gtr, Go.Ev.bin_geq, ↓Go.Ev.obind, ↓reduceIte, List.getElem?_cons_zero, List.getElem?_cons_succ, Nat.reduceEqDiff, Int.reduceEq, reduceCtorEq, decide_false, Bool.false_eq_true, eq_self]
          exact rfl
        case h2_4 =>
          refine ⟨.inl rfl, rfl, A, L, v' :: R' ++ B, decide (((R.length + 1 : Nat) : Int) ≥ (q : Int)), r, a, a + L.length, by first | omega | (simp; omega), by first | omega | (simp; omega), hG2, by omega, ?_, ?_⟩
          · simp only [List.append_assoc, List.cons_append]
          · simp only [e0, e1, e3, Go.Ev.look, ↓reduceIte, Nat.reduceEqDiff, reduceCtorEq, and_self, eq_self]
  rw [← hD]
  by_cases ha0 : a = 0
  · exact part (.inr ha0)
  obtain ⟨m, hm1⟩ : ∃ m, a = m + 1 := ⟨a - 1, by omega⟩
  obtain ⟨u, hu⟩ : ∃ u, D[m]? = some u := ⟨_, List.getElem?_eq_getElem (by omega)⟩
  by_cases huv : u < v
  · exact part (.inl ⟨m, u, hm1, hu, huv⟩)
  have hlast : (P ++ A)[(P ++ A).length - 1]? = some u := by
    have hpl : (P ++ A).length = m + 1 := by simp; omega
    have hk : D[m]? = (P ++ A)[m]? := by rw [hD, ← List.append_assoc, List.getElem?_append_left (by omega)]
    rw [hpl, Nat.add_sub_cancel, ← hk]; exact hu
  obtain ⟨L, R, f1, f2, f3, f4, f5⟩ := peq_ev g cl n V gw (P ++ A) S1 (B ++ Q) a b p (by simp; omega) hbb hp (by simp; omega) hb v (by rw [← hv, hD]; simp)
  have hl := f1.length_eq
  simp only [List.length_append] at hl
  simp only [List.append_assoc] at f5
  rw [← hD] at f5
  have hG2 := hG.eq f1 f2 f3 (by intro h; rw [h] at f4; simp at f4) hlast (by omega)
  have c3 : (a : Int) > 0 := by omega
  have w4 : IntKind.i64.wrap ((a : Int) - 1) = (m : Int) := w64_sub1 hm1 (by omega)
  have hc := cmp_Less_ev u v
  simp only [huv, decide_false] at hc
  have rm : m < n := by omega
  refine Exists.intro ?y_5 (And.intro ?h1_5 ?h2_5)
  case h1_5 =>
    simp only [pdqT, pdqT5, pdqB, c_slices_pdqsortOrdered_int_L1, Int.natCast_nonneg, Int.toNat_natCast, List.getElem?_map, Option.map_some, hm, e0, e1, e2, e11, f5, hv, rp, c3, w4, hu, rm, hc, intC, Go.Ev.exec, Go.Ev.evOpers, Go.Ev.evOper, Go.Ev.item_op, Go.Ev.item_P, Go.Ev.item_I, Go.Ev.evOp, Go.Ev.evs, Go.Ev.Opnd.ev, Go.Ev.Env.get, Go.Ev.Env.set, Go.Ev.look, Go.Ev.cellsAt, Go.Ev.loadC, Go.Ev.bin_sub, Go.Ev.bin_gtr, Go.Ev.lo_v, Go.Ev.los_nil, Go.Ev.los_cons, ↓Go.Ev.obind, ↓reduceIte, List.getElem?_cons_zero, List.drop_zero, List.head?_cons, Nat.reduceEqDiff, reduceCtorEq, decide_true, Bool.and_self, Bool.not_false, Bool.false_eq_true, and_self, Nat.zero_add, eq_self]
    exact rfl
  case h2_5 =>
    refine ⟨.inr rfl, rfl, A ++ L, R, B, wb, wp, a + L.length, b, by first | omega | (simp; omega), by first | omega | (simp; omega), hG2, by omega, ?_, ?_⟩
    · simp only [List.append_assoc]
    · simp only [e0, e2, e3, e8, e9, Go.Ev.look, ↓reduceIte, Nat.reduceEqDiff, reduceCtorEq, and_self, eq_self]
end
end Go.Proofs.Ytbkabnhkclbepaa.K

namespace Go.Proofs.Ytbkabnhkclbepaa.K
open Go.Ev
set_option linter.unusedSimpArgs false
set_option linter.unusedVariables false
set_option maxRecDepth 10000
structure PS where
  A : List Int
  S : List Int
  B : List Int
  lim : Nat
  wb : Bool
  wp : Bool
section
variable (g : Nat) (cl : Bool) (n : Nat) (V : List Int) (gw : Nat)
theorem pdq_loop (hb : n < 2 ^ 61) (k : Nat) (IH : PdqAt g cl n V gw k) (P S0 Q : List Int) (a b lim : Nat) (hk : S0.length ≤ k) (hlim : S0.length ≤ lim + 12) (h16 : S0.length ≤ 16) (ha : a = P.length) (hbb : b = a + S0.length) (hn : n = (P ++ (S0 ++ Q)).length) (hpre : ∀ u, P[P.length - 1]? = some u → ∀ x ∈ S0, u ≤ x) (hl2 : lim < 1000) :
    ∃ y, itB (exec (evL T) itL none c_slices_pdqsortOrdered_int_L1) (Ev.settle [0, 1, 2, 3, 8, 9] true 2) ⟨[(0, (.sl 0 g 0 n cl)), (1, (.v (.int .i64 (a)))), (2, (.v (.int .i64 (b)))), (3, (.v (.int .i64 (lim)))), (8, (.v (.bool (true)))), (9, (.v (.bool (true))))], []⟩ [.row 1 ((P ++ (S0 ++ Q)).map intC) g, .row 1 (V.map intC) gw] = some y ∧
      (y.1 = .ret ∧ y.2.1.marks = [] ∧ ∃ S' : List Int, S'.Perm S0 ∧ LeI S' ∧ y.2.2 = [.row 1 ((P ++ (S' ++ Q)).map intC) g, .row 1 (V.map intC) gw]) := by
  have key := itB_while (f := exec (evL T) itL none c_slices_pdqsortOrdered_int_L1) (s := Ev.settle [0, 1, 2, 3, 8, 9] true 2) (τ := PS)
    (fun s => ⟨[(0, (.sl 0 g 0 n cl)), (1, (.v (.int .i64 ((P.length + s.A.length : Nat))))), (2, (.v (.int .i64 ((P.length + s.A.length + s.S.length : Nat))))), (3, (.v (.int .i64 (s.lim)))), (8, (.v (.bool (s.wb)))), (9, (.v (.bool (s.wp))))], []⟩) (fun s => [.row 1 ((P ++ (s.A ++ (s.S ++ (s.B ++ Q)))).map intC) g, .row 1 (V.map intC) gw]) (fun s => s.S.length)
    (fun s => G P S0 s.A s.S s.B ∧ s.S.length ≤ s.lim + 12 ∧ s.S.length ≤ k ∧ s.S.length ≤ 16 ∧ s.lim < 1000)
    (fun y => y.1 = .ret ∧ y.2.1.marks = [] ∧ ∃ S' : List Int, S'.Perm S0 ∧ LeI S' ∧ y.2.2 = [.row 1 ((P ++ (S' ++ Q)).map intC) g, .row 1 (V.map intC) gw]) ?_ ⟨[], S0, [], lim, true, true⟩ ?_
  · subst ha; subst hbb
    simpa only [List.nil_append, List.length_nil, Nat.add_zero] using key
  · rintro ⟨A, S1, B, lm, wb, wp⟩ ⟨hG, h1, h2, h3, h4⟩
    simp only at hG h1 h2 h3 h4 ⊢
    have hpl := hG.perm.length_eq
    simp only [List.length_append] at hpl
    have hn2 : n = (P ++ (A ++ (S1 ++ (B ++ Q)))).length := by rw [hn]; simp; omega
    obtain ⟨a', ha'⟩ : ∃ a', a' = P.length + A.length := ⟨_, rfl⟩
    obtain ⟨b', hb'⟩ : ∃ b', b' = a' + S1.length := ⟨_, rfl⟩
    rw [← ha', ← hb']
    have fin : ∀ S2 : List Int, S2.Perm S1 → LeI S2 → ∃ S' : List Int, S'.Perm S0 ∧ LeI S' ∧ ([.row 1 ((P ++ (A ++ (S2 ++ (B ++ Q)))).map intC) g, .row 1 (V.map intC) gw] : Store) = [.row 1 ((P ++ (S' ++ Q)).map intC) g, .row 1 (V.map intC) gw] := fun S2 p s => by
      obtain ⟨f1, f2⟩ := hG.done p s
      exact ⟨A ++ (S2 ++ B), f1, f2, by simp⟩
    rcases pdq_st1 g cl n V gw hb P A S1 B Q a' b' lm wb wp ha' hb' hn2 h3 h1 h4 with ⟨⟨y, ye, yσ⟩, S2, k1, k2, k3, k4, k5, k6⟩ | ⟨e, S2, p, lm', h, k1, k2, k3, k4, k5, k6, k7, k8, e0, e1, e2, e3, e8, e9, e10, e11, e12⟩
    · simp only at k2 k3 k6
      subst k2; subst k6
      right
      refine ⟨(.ret, ye, [.row 1 ((P ++ (A ++ (S2 ++ (B ++ Q)))).map intC) g, .row 1 (V.map intC) gw]), ?_, rfl, k3, fin S2 k4 k5⟩
      have hk1 := k1 (pdqPre2 pdqT5 pdqT)
      rw [it1, pdq_split]
      simp only [exec, hk1, ↓Go.Ev.obind]
    have hl := k3.length_eq
    have hG2 := hG.reorder k3
    rcases pdq_st2 g cl n V gw hb P A S2 B Q a' b' lm' p h wb wp ha' (by omega) (by rw [hn2]; simp [hl]) (by omega) ⟨k5, k6⟩ e k2 e0 e1 e2 e3 e8 e9 (by rw [e10, hl]) e11 e12 with ⟨⟨y, ye, yσ⟩, S3, l1, l2, l3, l4, l5, l6⟩ | ⟨e', S3, p', l1, l2, l3, l4, l5, d0, d1, d2, d3, d8, d9, d10, d11⟩
    · simp only at l2 l3 l6
      subst l2; subst l6
      right
      refine ⟨(.ret, ye, [.row 1 ((P ++ (A ++ (S3 ++ (B ++ Q)))).map intC) g, .row 1 (V.map intC) gw]), ?_, rfl, l3, fin S3 (l4.trans k3) l5⟩
      have hk1 := k1 (pdqPre2 pdqT5 pdqT)
      have hl1 := l1 pdqT
      rw [it1, pdq_split]
      simp only [exec, hk1, hl1, ↓Go.Ev.obind]
    have hl3 := l3.length_eq
    have hG3 := hG2.reorder l3
    obtain ⟨⟨y, ye, yσ⟩, m1, m2, m3, A', S', B', wb', wp', a2, b2, q1, q2, q3, q4, q5, q6, q7, q8, q9, q10, q11⟩ := pdq_tail g cl n V gw hb P S0 A S3 B Q a' b' lm' p' wb wp (fun P S Q a b lim c => IH P S Q a b lim (by omega)) hG3 ha' (by omega) (by rw [hn2]; simp [hl, hl3]) (by omega) (by omega) k8 ⟨l4, l5⟩ e' l2 d0 d1 d2 d3 d8 d9 (by rw [d10, hl3]) d11
    simp only at m2 m3 q5 q6 q7 q8 q9 q10 q11
    subst q5
    have hk1 := k1 (pdqPre2 pdqT5 pdqT)
    have hl1 := l1 pdqT
    left
    refine ⟨⟨A', S', B', lm', wb', wp'⟩, ?_, ⟨q3, by simp only; omega, by simp only; omega, by simp only; omega, k8⟩, by simp only; omega⟩
    simp only
    rw [← q1, ← q2]
    rcases m2 with rfl | rfl
    · rw [it1, pdq_split]
      simp only [exec, hk1, hl1, m1, m3, q6, q7, q8, q9, q10, q11, ints_lo, Go.Ev.exec, Go.Ev.Env.get, Go.Ev.settle, Go.Ev.keep, Go.Ev.varsLo, Go.Ev.marksLo, Go.Ev.storeLo, Go.Ev.SObj.lo, Go.Ev.lo_v, Go.Ev.lo_sl, ↓Go.Ev.obind, ↓reduceIte, List.take_succ_cons, List.take_nil, Nat.reduceLT, decide_true, Bool.and_self, and_self, eq_self]
    · rw [it1, pdq_split]
      simp only [exec, hk1, hl1, m1, m3, q6, q7, q8, q9, q10, q11, ints_lo, Go.Ev.exec, Go.Ev.Env.get, Go.Ev.settle, Go.Ev.keep, Go.Ev.varsLo, Go.Ev.marksLo, Go.Ev.storeLo, Go.Ev.SObj.lo, Go.Ev.lo_v, Go.Ev.lo_sl, ↓Go.Ev.obind, ↓reduceIte, List.take_succ_cons, List.take_nil, Nat.reduceLT, decide_true, Bool.and_self, and_self, eq_self]
  · exact ⟨⟨by simp, .nil, .nil, fun x hx => by simp at hx, fun x hx => by simp at hx, fun x _ y hy => by simp at hy, by simpa using hpre⟩, by simp only; omega, hk, h16, hl2⟩
theorem pdq_at (hb : n < 2 ^ 61) : ∀ k, PdqAt g cl n V gw k := by
  intro k
  induction k with
  | zero => intro P S Q a b lim h; omega
  | succ k ih =>
    intro P S Q a b lim hk hlim h16 ha hbb hn hpre hl2
    obtain ⟨⟨y, e, σ⟩, k1, k2, k3, S', k4, k5, k6⟩ := pdq_loop g cl n V gw hb k ih P S Q a b lim (by omega) hlim h16 ha hbb hn hpre hl2
    simp only at k1 k2 k3 k6
    subst k2; subst k6
    refine ⟨S', k4, k5, ?_⟩
    rw [evL_code ext_slices_pdqsortOrdered_int code_slices_pdqsortOrdered_int]
    simp only [c_slices_pdqsortOrdered_int, k1, k3, ints_lo, Go.Ev.runFunc, Go.Ev.exec, Go.Ev.evOpers, Go.Ev.evOper, Go.Ev.item_op, Go.Ev.evOp, Go.Ev.Opnd.ev, Go.Ev.Env.get, Go.Ev.Env.set, Go.Ev.look, Go.Ev.argVars, Go.Ev.resVals, Go.Ev.resOf, Go.Ev.kill, Go.Ev.leave, Go.Ev.settle, Go.Ev.keep, Go.Ev.varsLo, Go.Ev.marksLo, Go.Ev.storeLo, Go.Ev.SObj.lo, Go.Ev.lo_v, Go.Ev.lo_tup, Go.Ev.lo_sl, Go.Ev.los_nil, ↓Go.Ev.obind, ↓Go.Ev.itL_itB, ↓reduceIte, List.length_cons, List.length_nil, List.take_succ_cons, List.take_nil, Nat.reduceAdd, Nat.reduceEqDiff, Nat.reduceLT, reduceCtorEq, decide_true, Bool.and_self, and_self, Nat.zero_add, eq_self]
theorem slices_Sort_ev (S : List Int) (h16 : S.length ≤ 16) :
    ∃ S' : List Int, S'.Perm S ∧ LeI S' ∧ (evL T).call n_slices_Sort_Lint_int [.sl 0 g 0 S.length cl] [.row 1 ((S).map intC) g, .row 1 (V.map intC) gw] = some (.tup [], [.row 1 ((S').map intC) g, .row 1 (V.map intC) gw]) := by
  obtain ⟨m, hm1, hm2, hm3⟩ := len_ev S.length h16
  obtain ⟨S', h1, h2, h3⟩ := pdq_at g cl S.length V gw (by omega) (S.length + 1) [] S [] 0 S.length m (by omega) hm2 h16 rfl (by simp) (by simp) (by simp) (by omega)
  simp only [List.nil_append, List.append_nil] at h3
  have u1 : IntKind.u64.wrap (S.length : Int) = (S.length : Int) := u64_nat (by omega)
  have h0 : ((0 : Nat) : Int) = 0 := rfl
  refine ⟨S', h1, h2, ?_⟩
  rw [h0] at h3
  rw [evL_code ext_slices_Sort_Lint_int code_slices_Sort_Lint_int]
  simp only [c_slices_Sort_Lint_int, u1, hm1, h3, ints_lo, Go.Ev.runFunc, Go.Ev.exec, Go.Ev.evOpers, Go.Ev.evOper, Go.Ev.item_op, Go.Ev.item_P, Go.Ev.item_I, Go.Ev.evOp, Go.Ev.evs, Go.Ev.Opnd.ev, Go.Ev.Env.get, Go.Ev.Env.set, Go.Ev.look, Go.Ev.argVars, Go.Ev.resVals, Go.Ev.resOf, Go.Ev.kill, Go.Ev.leave, Go.Ev.storeLo, Go.Ev.SObj.lo, Go.Ev.lo_v, Go.Ev.lo_tup, Go.Ev.los_nil, Go.Ev.los_cons, ↓Go.Ev.obind, ↓reduceIte, List.length_cons, List.length_nil, List.take_succ_cons, List.take_nil, Nat.reduceAdd, Nat.reduceEqDiff, reduceCtorEq, Bool.and_self, and_self, Nat.zero_add, eq_self]
end
end Go.Proofs.Ytbkabnhkclbepaa.K
