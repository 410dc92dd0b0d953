/- Part of the proofs about this seat's program (module EvX). -/
import Derived.Test.YtbkabnhkclbepaaEvW
set_option linter.unusedSectionVars false
set_option linter.unusedSimpArgs false
set_option linter.unusedVariables false
namespace Go.Ev
/-! ### For use -/
abbrev w64 (n : Int) : Int := IntKind.i64.wrap n

/-- Ahead of what comes behind. -/
theorem obind {α β : Type} (x : Option α) (f : α → Option β) : x.bind f = match x with | none => none | some a => f a := by cases x <;> rfl
theorem lo_v (n : Nat) (x : Value) : (AV.v x).lo n = true := by simp only [AV.lo, los, loss]
theorem lo_agg (n : Nat) (cs : List AV) : (AV.agg cs).lo n = los n cs := by simp only [AV.lo, los, loss]
theorem lo_tup (n : Nat) (cs : List AV) : (AV.tup cs).lo n = los n cs := by simp only [AV.lo, los, loss]
theorem lo_fsl (n : Nat) (es : List (List AV)) (c : Bool) : (AV.fsl es c).lo n = loss n es := by simp only [AV.lo, los, loss]
theorem lo_fptr (n : Nat) (cs : List AV) : (AV.fptr cs).lo n = los n cs := by simp only [AV.lo, los, loss]
theorem lo_sl (n o g off len : Nat) (c : Bool) : (AV.sl o g off len c).lo n = decide (o < n) := by simp only [AV.lo, los, loss]
theorem lo_ptr (n o g i off : Nat) : (AV.ptr o g i off).lo n = decide (o < n) := by simp only [AV.lo, los, loss]
theorem lo_fn (n : Nat) (f : Go.Fn) (a b : List AV) : (AV.fn f a b).lo n = (los n a && los n b) := by simp only [AV.lo, los, loss]
theorem lo_yld (n o : Nat) : (AV.yld o).lo n = decide (o < n) := by simp only [AV.lo, los, loss]
theorem lo_mp (n o : Nat) : (AV.mp o).lo n = decide (o < n) := by simp only [AV.lo, los, loss]
theorem los_nil (n : Nat) : los n [] = true := by simp only [AV.lo, los, loss]
theorem los_cons (n : Nat) (a : AV) (as : List AV) : los n (a :: as) = (a.lo n && los n as) := by simp only [AV.lo, los, loss]
theorem loss_nil (n : Nat) : loss n [] = true := by simp only [AV.lo, los, loss]
theorem loss_cons (n : Nat) (a : List AV) (as : List (List AV)) : loss n (a :: as) = (los n a && loss n as) := by simp only [AV.lo, los, loss]
section bin
variable (k : IntKind) (a b : Int)
theorem bin_add : evBin .add (.v (.int k a)) (.v (.int k b)) = some (.v (.int k (k.wrap (a + b)))) := by simp [evBin]
theorem bin_sub : evBin .sub (.v (.int k a)) (.v (.int k b)) = some (.v (.int k (k.wrap (a - b)))) := by simp [evBin]
theorem bin_mul : evBin .mul (.v (.int k a)) (.v (.int k b)) = some (.v (.int k (k.wrap (a * b)))) := by simp [evBin]
theorem bin_quo : evBin .quo (.v (.int k a)) (.v (.int k b)) = if b = 0 then none else some (.v (.int k (k.wrap (a.tdiv b)))) := by simp [evBin]
theorem bin_rem : evBin .rem (.v (.int k a)) (.v (.int k b)) = if b = 0 then none else some (.v (.int k (a.tmod b))) := by simp [evBin]
theorem bin_eql : evBin .eql (.v (.int k a)) (.v (.int k b)) = some (.v (.bool (decide (a = b)))) := by
  by_cases h : a = b <;> simp [evBin, h]
theorem bin_neq : evBin .neq (.v (.int k a)) (.v (.int k b)) = some (.v (.bool (decide (a ≠ b)))) := by
  by_cases h : a = b <;> simp [evBin, h]
theorem bin_lss : evBin .lss (.v (.int k a)) (.v (.int k b)) = some (.v (.bool (decide (a < b)))) := by simp [evBin]
theorem bin_leq : evBin .leq (.v (.int k a)) (.v (.int k b)) = some (.v (.bool (decide (a ≤ b)))) := by simp [evBin]
theorem bin_gtr : evBin .gtr (.v (.int k a)) (.v (.int k b)) = some (.v (.bool (decide (a > b)))) := by simp [evBin]
theorem bin_geq : evBin .geq (.v (.int k a)) (.v (.int k b)) = some (.v (.bool (decide (a ≥ b)))) := by simp [evBin]
end bin

/-! ### What is frozen stays so -/
theorem frz_lo {σ : Store} {d : Nat} {a : AV} (h : a.lo 0 = true) : frz σ d a = some a := by
  cases d <;> simp [frz, h]
theorem omap_lo {σ : Store} {d : Nat} : ∀ {as : List AV}, los 0 as = true → omap (frz σ d) as = some as
  | [], _ => rfl
  | a :: as, h => by
    simp only [los, Bool.and_eq_true] at h
    simp only [omap, frz_lo h.1, omap_lo h.2, Option.bind_some]
theorem omap_los {σ : Store} {d : Nat} : ∀ {es : List (List AV)}, loss 0 es = true → omap (omap (frz σ d)) es = some es
  | [], _ => rfl
  | a :: as, h => by
    simp only [loss, Bool.and_eq_true] at h
    simp only [omap, omap_lo h.1, omap_los h.2, Option.bind_some]
theorem frz_sl {σ : Store} {d o g off len : Nat} {c : Bool} {sz : Nat} {es : List (List AV)} (h : σ[o]? = some (.row sz es g)) (hl : off + len ≤ es.length) (hlo : loss 0 ((es.drop off).take len) = true) :
    frz σ (d + 1) (.sl o g off len c) = some (.fsl ((es.drop off).take len) false) := by
  simp only [frz, AV.lo, h, Nat.not_lt_zero, decide_false, Bool.false_eq_true, if_false, true_and, hl, if_true, omap_los hlo, Option.bind_some]
theorem loss_map {α : Type} {n : Nat} {c : α → List AV} (h : ∀ x, los n (c x) = true) : ∀ (xs : List α), loss n (xs.map c) = true
  | [] => rfl
  | x :: xs => by simp only [List.map_cons, loss, h, loss_map h xs, Bool.and_self]
theorem okRows_map {α : Type} {sz : Nat} {c : α → List AV} (h : ∀ x, (c x).length = sz ∧ plains (c x) = true) : ∀ (xs : List α), okRows sz (xs.map c) = true
  | [] => rfl
  | x :: xs => by simp only [List.map_cons, okRows, (h x).1, (h x).2, okRows_map h xs, decide_true, Bool.and_self]
theorem okRows_nil (sz : Nat) : okRows sz [] = true := by simp only [okRows]
theorem okRows_cons (sz : Nat) (e : List AV) (es : List (List AV)) : okRows sz (e :: es) = (decide (e.length = sz) && (plains e && okRows sz es)) := by simp only [okRows]
theorem loss_append {n : Nat} : ∀ (xs ys : List (List AV)), loss n (xs ++ ys) = (loss n xs && loss n ys)
  | [], ys => by simp [loss]
  | x :: xs, ys => by simp only [List.cons_append, loss, loss_append xs ys, Bool.and_assoc]
theorem okRows_app {sz : Nat} : ∀ (xs ys : List (List AV)), okRows sz (xs ++ ys) = (okRows sz xs && okRows sz ys)
  | [], ys => by simp [okRows]
  | x :: xs, ys => by simp only [List.cons_append, okRows, okRows_app xs ys, Bool.and_assoc]

theorem frz_agg {σ : Store} {d : Nat} {cs : List AV} : frz σ (d + 1) (.agg cs) = (omap (frz σ d) cs).bind fun cs => some (.agg cs) := by
  by_cases h : los 0 cs = true
  · rw [frz_lo (by simpa only [AV.lo] using h), omap_lo h]; rfl
  · simp only [frz, AV.lo, h]; rfl
theorem frz_tup {σ : Store} {d : Nat} {cs : List AV} : frz σ (d + 1) (.tup cs) = (omap (frz σ d) cs).bind fun cs => some (.tup cs) := by
  by_cases h : los 0 cs = true
  · rw [frz_lo (by simpa only [AV.lo] using h), omap_lo h]; rfl
  · simp only [frz, AV.lo, h]; rfl
theorem frz_own {σ : Store} {d o g off len : Nat} {c : Bool} : frz σ (d + 1) (.sl o g off len c) = match σ[o]? with
    | some (.row _ es g') => if g = g' ∧ off + len ≤ es.length then (omap (omap (frz σ d)) ((es.drop off).take len)).bind fun es => some (.fsl es false) else none
    | _ => none := by
  simp only [frz, AV.lo, Nat.not_lt_zero, decide_false, Bool.false_eq_true, if_false]
  rfl
theorem omap_nil {α β : Type} (f : α → Option β) : omap f [] = some [] := by simp only [omap]
theorem omap_cons {α β : Type} (f : α → Option β) (a : α) (as : List α) : omap f (a :: as) = (f a).bind fun b => (omap f as).bind fun bs => some (b :: bs) := by simp only [omap]
theorem loss_replicate (n k : Nat) (e : List AV) (h : los n e = true) : loss n (List.replicate k e) = true := by
  induction k with
  | zero => simp only [List.replicate, loss]
  | succ k ih => simp only [List.replicate, loss, h, ih, Bool.and_self]
/-- A call that sees nothing of its caller's: what it hands back, frozen. -/
def callZ (O : Orc) (k : Nat) (as : List AV) : Option AV := (O.call k as []).bind fun x => frz x.2 6 x.1
section items
variable (O : Orc) (e : Env) (σ : Store)
theorem item_op (o : COp) : evItem O e σ (.op o) = evOp e σ o := by simp only [evItem]
theorem item_P (k : Nat) (args : List Opnd) : evItem O e σ (.callP k args) = (evs e args).bind fun as => if los 0 as = true then (callZ O k as).bind fun r => some (r, σ) else none := by
  simp only [evItem, callZ, Option.bind_assoc]
theorem item_A (k : Nat) (args : List Opnd) : evItem O e σ (.callA k args) = (evs e args).bind fun as => if los 0 as = true then (O.call k as []).bind fun (r, σ') =>
      (omap (impO σ.length) σ').bind fun τ => some (r.shift σ.length, σ ++ τ) else none := by simp only [evItem]
theorem item_I (k : Nat) (args : List Opnd) : evItem O e σ (.callI k args) = (evs e args).bind fun as => O.call k as σ := by simp only [evItem]
theorem item_R (k : Nat) (args : List Opnd) : evItem O e σ (.callR k args) = (evs e args).bind fun as => (O.call k as σ).bind fun (r, σ') => if storeEq σ σ' = true then some (r, σ) else none := by simp only [evItem]
theorem item_F (k : Nat) (args : List Opnd) : evItem O e σ (.callF k args) = (evs e args).bind fun as => (giveAs as σ).bind fun x => if los 0 x.1 = true then (callZ O k x.1).bind fun r => some (r, x.2) else none := by
  simp only [evItem, callZ, Option.bind_assoc]
theorem item_v (f : Opnd) (args : List Opnd) : evItem O e σ (.callv f args) = (f.ev e).bind fun g => (evs e args).bind fun as => match g with
    | .fn (.func k) first cap => O.call k (first ++ (as ++ cap)) σ
    | .yld o => O.round o as σ
    | _ => none := by simp only [evItem]; rfl
end items
mutual
theorem shift_lo (d : Nat) : ∀ (a : AV), a.lo 0 = true → a.shift d = a
  | .v _, _ => by simp only [AV.shift]
  | .agg cs, h => by simp only [AV.lo] at h; simp only [AV.shift, shifts_lo d cs h]
  | .tup cs, h => by simp only [AV.lo] at h; simp only [AV.shift, shifts_lo d cs h]
  | .fsl es c, h => by simp only [AV.lo] at h; simp only [AV.shift, shiftss_lo d es h]
  | .fptr cs, h => by simp only [AV.lo] at h; simp only [AV.shift, shifts_lo d cs h]
  | .sl o _ _ _ _, h => by simp only [AV.lo, Nat.not_lt_zero, decide_false, Bool.false_eq_true] at h
  | .ptr o _ _ _, h => by simp only [AV.lo, Nat.not_lt_zero, decide_false, Bool.false_eq_true] at h
  | .fn f a b, h => by simp only [AV.lo, Bool.and_eq_true] at h; simp only [AV.shift, shifts_lo d a h.1, shifts_lo d b h.2]
  | .yld o, h => by simp only [AV.lo, Nat.not_lt_zero, decide_false, Bool.false_eq_true] at h
  | .mp o, h => by simp only [AV.lo, Nat.not_lt_zero, decide_false, Bool.false_eq_true] at h
theorem shifts_lo (d : Nat) : ∀ (as : List AV), los 0 as = true → shifts d as = as
  | [], _ => rfl
  | a :: as, h => by simp only [los, Bool.and_eq_true] at h; simp only [shifts, shift_lo d a h.1, shifts_lo d as h.2]
theorem shiftss_lo (d : Nat) : ∀ (es : List (List AV)), loss 0 es = true → shiftss d es = es
  | [], _ => rfl
  | a :: as, h => by simp only [loss, Bool.and_eq_true] at h; simp only [shiftss, shifts_lo d a h.1, shiftss_lo d as h.2]
end
theorem take_map_len {α β : Type} (xs : List α) (f : α → β) : (xs.map f).take xs.length = xs.map f := List.take_of_length_le (by simp)
theorem shiftss_map {α : Type} {d : Nat} {c : α → List AV} (h : ∀ x, shifts d (c x) = c x) : ∀ (xs : List α), shiftss d (xs.map c) = xs.map c
  | [] => rfl
  | x :: xs => by simp only [List.map_cons, shiftss, h, shiftss_map h xs]

/-! ### Loops -/
/-- A loop whose head has been set right. -/
noncomputable def itB (f : Env → Store → R3) (s : Env → Store → Option (Env × Store)) (e : Env) (σ : Store) : R3 :=
  (f e σ).bind fun y => match y.1 with | .normal => itL f s y.2.1 y.2.2 | .exit id => some (.exit id, y.2) | .ret => some (.ret, y.2)
theorem itL_itB {f : Env → Store → R3} {s : Env → Store → Option (Env × Store)} {e : Env} {σ : Store} : itL f s e σ = (s e σ).bind fun x => itB f s x.1 x.2 := itL_eq f s e σ
/-- One turn of a loop: the next head, or the way out. -/
def it1 (f : Env → Store → R3) (s : Env → Store → Option (Env × Store)) (e : Env) (σ : Store) : Option ((Env × Store) ⊕ (CExit × Env × Store)) :=
  (f e σ).bind fun y => match y with
    | (.normal, e', σ') => (s e' σ').bind fun x => some (.inl x)
    | (.exit id, e', σ') => some (.inr (.exit id, e', σ'))
    | (.ret, e', σ') => some (.inr (.ret, e', σ'))
theorem itB_it1 {f : Env → Store → R3} {s : Env → Store → Option (Env × Store)} {e : Env} {σ : Store} : itB f s e σ = (it1 f s e σ).bind fun x => match x with | .inl x => itB f s x.1 x.2 | .inr y => some y := by
  unfold it1
  rw [itB]
  cases f e σ with
  | none => rfl
  | some y =>
    obtain ⟨y, e', σ'⟩ := y
    cases y
    · simp only [Option.bind_some, itL_itB]
      cases s e' σ' <;> rfl
    · rfl
    · rfl
/-- A loop that counts to n. -/
theorem itB_for {f : Env → Store → R3} {s : Env → Store → Option (Env × Store)} {α : Type} (E : Nat → α → Env) (S : Nat → α → Store) (Inv : Nat → α → Prop) (n : Nat) (Q : CExit × Env × Store → Prop)
    (step : ∀ i a, i < n → Inv i a → (∃ a', it1 f s (E i a) (S i a) = some (.inl (E (i + 1) a', S (i + 1) a')) ∧ Inv (i + 1) a') ∨ ∃ y, it1 f s (E i a) (S i a) = some (.inr y) ∧ Q y)
    (last : ∀ a, Inv n a → ∃ y, it1 f s (E n a) (S n a) = some (.inr y) ∧ Q y) :
    ∀ i a, i ≤ n → Inv i a → ∃ y, itB f s (E i a) (S i a) = some y ∧ Q y := by
  have : ∀ k i a, n - i = k → i ≤ n → Inv i a → ∃ y, itB f s (E i a) (S i a) = some y ∧ Q y := by
    intro k
    induction k with
    | zero =>
      intro i a hk hi ha
      obtain rfl : i = n := by omega
      obtain ⟨y, h1, h2⟩ := last a ha
      exact ⟨y, by rw [itB_it1, h1]; rfl, h2⟩
    | succ k ih =>
      intro i a hk hi ha
      rcases step i a (by omega) ha with ⟨a', h1, h2⟩ | ⟨y, h1, h2⟩
      · obtain ⟨y, h3, h4⟩ := ih (i + 1) a' (by omega) (by omega) h2
        exact ⟨y, by rw [itB_it1, h1]; exact h3, h4⟩
      · exact ⟨y, by rw [itB_it1, h1]; rfl, h2⟩
  exact fun i a => this (n - i) i a rfl
theorem w64_small {n : Int} (h1 : -9223372036854775808 ≤ n) (h2 : n < 9223372036854775808) : IntKind.i64.wrap n = n := by
  have h3 : IntKind.i64.bits = 64 := rfl
  have h4 : IntKind.i64.signed = true := rfl
  simp only [IntKind.wrap, h3, h4, Bool.true_and]
  rw [show (2 : Int) ^ 64 = 18446744073709551616 from rfl, show (2 : Int) ^ (64 - 1) = 9223372036854775808 from rfl]
  simp only [decide_eq_true_eq]
  split <;> omega
/-- What is left to do when one thing after another is fed, until it is enough. -/
def foldE {α β γ : Type} (step : α → γ → α ⊕ β) : α → List γ → α ⊕ β
  | a, [] => .inl a
  | a, x :: xs => match step a x with
    | .inl a' => foldE step a' xs
    | .inr b => .inr b
theorem foldE_append {α β γ : Type} (step : α → γ → α ⊕ β) : ∀ (xs ys : List γ) (a : α), foldE step a (xs ++ ys) = match foldE step a xs with | .inl a' => foldE step a' ys | .inr b => .inr b
  | [], ys, a => rfl
  | x :: xs, ys, a => by
    simp only [List.cons_append, foldE]
    cases step a x with
    | inl a' => exact foldE_append step xs ys a'
    | inr b => rfl
theorem take_next {α : Type} {l : List α} {i : Nat} {x : α} (h : l[i]? = some x) : l.take (i + 1) = l.take i ++ [x] := by
  rw [List.take_add_one, h]; rfl
theorem evL_ent {T : Tab} {k : Nat} (h : T.ext k = none) : (evL T).ent k = true := by
  show (T.ext k).isNone = true
  rw [h]; rfl
/-- What a bounded run answers (for closed calls: reckoned by the kernel). -/
theorem evL_of_F {T : Tab} {k : Nat} {as : List AV} {σ : Store} {r : AV × Store} (n : Nat) (h : (evF T n).call k as σ = some r) : (evL T).call k as σ = some r := ((evL_cont.call k as σ).lim r).2 ⟨n, h⟩
theorem callZ_of_F {T : Tab} {k : Nat} {as : List AV} {r : AV} (n : Nat) (h : ((evF T n).call k as []).bind (fun x => frz x.2 6 x.1) = some r) : callZ (evL T) k as = some r := by
  rw [Option.bind_eq_some_iff] at h
  obtain ⟨x, h1, h2⟩ := h
  unfold callZ
  rw [evL_of_F n h1]
  exact h2
end Go.Ev
namespace Go.Ev
/-- A loop over a list that stops at the first element that fails a test. -/
theorem itB_find {f : Env → Store → R3} {s : Env → Store → Option (Env × Store)} {τ : Type} (l : List τ) (E : Nat → Env) (σ : Store) (p : τ → Bool) (Qg : CExit × Env × Store → Prop) (Qb : τ → CExit × Env × Store → Prop)
    (good : ∀ (i : Nat) (x : τ), i < l.length → l[i]? = some x → p x = true → it1 f s (E i) σ = some (.inl (E (i + 1), σ)))
    (bad : ∀ (i : Nat) (x : τ), i < l.length → l[i]? = some x → p x = false → ∃ y, it1 f s (E i) σ = some (.inr y) ∧ Qb x y)
    (last : ∃ y, it1 f s (E l.length) σ = some (.inr y) ∧ Qg y) : ∃ y, itB f s (E 0) σ = some y ∧ (l.all p = true ∧ Qg y ∨ l.all p = false ∧ ∃ x, l.find? (fun x => !p x) = some x ∧ Qb x y) := by
  have := itB_for (f := f) (s := s) (α := Unit) (fun i _ => E i) (fun _ _ => σ) (fun i _ => (l.take i).all p = true) l.length
    (fun y => l.all p = true ∧ Qg y ∨ l.all p = false ∧ ∃ x, l.find? (fun x => !p x) = some x ∧ Qb x y) ?_ ?_ 0 () (Nat.zero_le _) (by simp)
  · exact this
  · intro i _ hi hp
    obtain ⟨x, hx⟩ : ∃ x, l[i]? = some x := ⟨_, List.getElem?_eq_getElem hi⟩
    cases hpx : p x with
    | true => exact .inl ⟨(), good i _ hi hx hpx, by rw [take_next hx, List.all_append, hp]; simp [hpx]⟩
    | false =>
      obtain ⟨y, h1, h2⟩ := bad i _ hi hx hpx
      refine .inr ⟨y, h1, .inr ⟨?_, x, ?_, h2⟩⟩
      · rw [Bool.eq_false_iff]; intro h; rw [List.all_eq_true] at h
        rw [h _ (List.mem_of_getElem? hx)] at hpx; cases hpx
      · have hd : l = l.take i ++ (x :: l.drop (i + 1)) := by
          obtain ⟨_, rfl⟩ := List.getElem?_eq_some_iff.1 hx
          rw [List.getElem_cons_drop, List.take_append_drop]
        have hn : (l.take i).find? (fun x => !p x) = none := by
          rw [List.find?_eq_none]
          intro x hx'
          rw [List.all_eq_true.1 hp x hx']; simp
        generalize l.take i = l1 at hd hn
        generalize l.drop (i + 1) = l2 at hd
        subst hd
        rw [List.find?_append, hn, List.find?_cons, hpx]; rfl
  · intro _ hp
    rw [List.take_length] at hp
    obtain ⟨y, h1, h2⟩ := last
    exact ⟨y, h1, .inl ⟨hp, h2⟩⟩
end Go.Ev
namespace Go.Ev
theorem itB_step {f : Env → Store → R3} {s : Env → Store → Option (Env × Store)} {e e' : Env} {σ σ' : Store} {y : CExit × Env × Store} (h : it1 f s e σ = some (.inl (e', σ'))) (k : itB f s e' σ' = some y) : itB f s e σ = some y := by
  rw [itB_it1, h]; exact k
theorem itB_stop {f : Env → Store → R3} {s : Env → Store → Option (Env × Store)} {e : Env} {σ : Store} {y : CExit × Env × Store} (h : it1 f s e σ = some (.inr y)) : itB f s e σ = some y := by
  rw [itB_it1, h]; rfl
end Go.Ev
namespace Go.Ev
theorem eqBss_nil : eqBss [] [] = true := by simp only [eqBss]
theorem eqBss_cons (a b : List AV) (as bs : List (List AV)) : eqBss (a :: as) (b :: bs) = (eqBs a b && eqBss as bs) := by simp only [eqBss]
theorem eqBs_nil : eqBs [] [] = true := by simp only [eqBs]
theorem eqBs_cons (a b : AV) (as bs : List AV) : eqBs (a :: as) (b :: bs) = (a.eqB b && eqBs as bs) := by simp only [eqBs]
theorem eqB_int (k k' : IntKind) (n n' : Int) : (AV.v (.int k n)).eqB (.v (.int k' n')) = (decide (k = k') && decide (n = n')) := by simp only [AV.eqB, valEq]
theorem eqB_bool (a b : Bool) : (AV.v (.bool a)).eqB (.v (.bool b)) = (a == b) := by simp only [AV.eqB, valEq]
theorem eqB_fsl (a b : List (List AV)) (c d : Bool) : (AV.fsl a c).eqB (.fsl b d) = (eqBss a b && c == d) := by simp only [AV.eqB]
theorem eqB_agg (a b : List AV) : (AV.agg a).eqB (.agg b) = eqBs a b := by simp only [AV.eqB]
theorem eqB_sl (o g off len o' g' off' len' : Nat) (c c' : Bool) : (AV.sl o g off len c).eqB (.sl o' g' off' len' c') = (o == o' && (g == g' && (off == off' && (len == len' && c == c')))) := by simp only [AV.eqB]
theorem eqB_ptr (o g i off o' g' i' off' : Nat) : (AV.ptr o g i off).eqB (.ptr o' g' i' off') = (o == o' && (g == g' && (i == i' && off == off'))) := by simp only [AV.eqB]
theorem eqBss_map {α : Type} {c : α → List AV} (h : ∀ x, eqBs (c x) (c x) = true) : ∀ l : List α, eqBss (l.map c) (l.map c) = true
  | [] => eqBss_nil
  | x :: l => by rw [List.map_cons, eqBss_cons, h x, eqBss_map h l]; rfl
end Go.Ev
