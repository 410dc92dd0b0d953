/- Part of the proofs about this seat's program (module EvV). -/
import Derived.Test.YtbkabnhkclbepaaEvU
set_option linter.unusedSectionVars false
set_option linter.unusedSimpArgs false
set_option linter.unusedVariables false
namespace Go.Ev
/-! ### The limit: what is answered however long it takes -/
structure Cont {α : Type} (F : Nat → Option α) (L : Option α) : Prop where
  up : ∀ n r, F n = some r → F (n + 1) = some r
  lim : ∀ r, L = some r ↔ ∃ n, F n = some r
theorem Cont.le {α : Type} {F : Nat → Option α} {L : Option α} (h : Cont F L) {r : α} : ∀ {m n : Nat}, m ≤ n → F m = some r → F n = some r := fun {m n} hmn hr => by
  induction hmn with
  | refl => exact hr
  | step _ ih => exact h.up _ _ ih
theorem Cont.const {α : Type} (x : Option α) : Cont (fun _ => x) x := ⟨fun _ _ h => h, fun _ => ⟨fun h => ⟨0, h⟩, fun ⟨_, h⟩ => h⟩⟩
theorem Cont.bind {α β : Type} {F : Nat → Option α} {L : Option α} {G : Nat → α → Option β} {K : α → Option β} (h : Cont F L) (k : ∀ a, Cont (fun n => G n a) (K a)) : Cont (fun n => (F n).bind (G n)) (L.bind K) where
  up n r hr := by
    rw [Option.bind_eq_some_iff] at hr ⊢
    obtain ⟨a, h1, h2⟩ := hr
    exact ⟨a, h.up n a h1, (k a).up n r h2⟩
  lim r := by
    rw [Option.bind_eq_some_iff]
    constructor
    · rintro ⟨a, h1, h2⟩
      obtain ⟨n, h3⟩ := (h.lim a).1 h1
      obtain ⟨m, h4⟩ := ((k a).lim r).1 h2
      exact ⟨max n m, by rw [Option.bind_eq_some_iff]; exact ⟨a, h.le (Nat.le_max_left _ _) h3, (k a).le (Nat.le_max_right _ _) h4⟩⟩
    · rintro ⟨n, hn⟩
      rw [Option.bind_eq_some_iff] at hn
      obtain ⟨a, h1, h2⟩ := hn
      exact ⟨a, (h.lim a).2 ⟨n, h1⟩, ((k a).lim r).2 ⟨n, h2⟩⟩
theorem Cont.unique {α : Type} {F : Nat → Option α} {L L' : Option α} (h : Cont F L) (k : Cont F L') : L = L' := by
  cases hL : L with
  | some r => exact ((k.lim r).2 ((h.lim r).1 hL)).symm
  | none =>
    cases hL' : L' with
    | none => rfl
    | some r =>
      have := (h.lim r).2 ((k.lim r).1 hL')
      rw [hL] at this; cases this
theorem Cont.shift {α : Type} {F : Nat → Option α} {L : Option α} (h : Cont F L) : Cont (fun n => F (n + 1)) L where
  up n := h.up (n + 1)
  lim r := by
    rw [h.lim r]
    exact ⟨fun ⟨n, hn⟩ => ⟨n, h.up n r hn⟩, fun ⟨n, hn⟩ => ⟨n + 1, hn⟩⟩
theorem Cont.two {α : Type} {x y : Option α} (h : ∀ r, x = some r → y = some r) : Cont (fun n => if n = 0 then x else y) y where
  up n r hr := by
    by_cases hn : n = 0
    · subst hn; simp at hr ⊢; exact h r hr
    · simp [hn] at hr ⊢; exact hr
  lim r := ⟨fun hr => ⟨1, by simpa using hr⟩, fun ⟨n, hn⟩ => by
    by_cases h0 : n = 0
    · subst h0; simp at hn; exact h r hn
    · simpa [h0] using hn⟩

structure OrcC (On : Nat → Orc) (O : Orc) : Prop where
  call : ∀ k as σ, Cont (fun n => (On n).call k as σ) (O.call k as σ)
  round : ∀ l as σ, Cont (fun n => (On n).round l as σ) (O.round l as σ)
  ent : ∀ n k, (On n).ent k = O.ent k
def IterC (In : Nat → Iter) (I : Iter) : Prop := ∀ (fn : Nat → Env → Store → R3) f s e σ, (∀ e σ, Cont (fun n => fn n e σ) (f e σ)) → Cont (fun n => In n (fn n) s e σ) (I f s e σ)
variable {On : Nat → Orc} {O : Orc} {In : Nat → Iter} {I : Iter}

theorem OrcC.item (h : OrcC On O) (e : Env) (σ : Store) (it : Item') : Cont (fun n => evItem (On n) e σ it) (evItem O e σ it) := by
  cases it with
  | op o => exact .const _
  | callP k args =>
    simp only [evItem]
    refine .bind (.const _) fun as => ?_
    split
    · exact .bind (h.call _ _ _) fun _ => .const _
    · exact .const _
  | callA k args =>
    simp only [evItem]
    refine .bind (.const _) fun as => ?_
    split
    · exact .bind (h.call _ _ _) fun _ => .const _
    · exact .const _
  | callI k args =>
    simp only [evItem]
    exact .bind (.const _) fun as => h.call _ _ _
  | callF k args =>
    simp only [evItem]
    refine .bind (.const _) fun as => .bind (.const _) fun x => ?_
    split
    · exact .bind (h.call _ _ _) fun _ => .const _
    · exact .const _
  | callR k args =>
    simp only [evItem]
    exact .bind (.const _) fun as => .bind (h.call _ _ _) fun _ => .const _
  | callv f args =>
    simp only [evItem]
    refine .bind (.const _) fun g => .bind (.const _) fun as => ?_
    split
    · exact h.call _ _ _
    · exact h.round _ _ _
    · exact .const _
theorem OrcC.oper (h : OrcC On O) (e : Env) (σ : Store) (o : COper) : Cont (fun n => evOper (On n) e σ o) (evOper O e σ o) := by
  simp only [evOper]
  split
  · exact .bind (h.item _ _ _) fun _ => .const _
  · refine .bind (.const _) fun b => ?_
    split
    · split
      · exact .bind (h.item _ _ _) fun _ => .const _
      · exact .const _
    · exact .const _
    · exact .const _
theorem OrcC.opers (h : OrcC On O) : ∀ (l : List COper) (e : Env) (σ : Store), Cont (fun n => evOpers (On n) l e σ) (evOpers O l e σ)
  | [], _, _ => .const _
  | o :: l, e, σ => by
    simp only [evOpers]
    exact .bind (h.oper _ _ _) fun x => OrcC.opers h l _ _
theorem OrcC.range (h : OrcC On O) (k : Nat) (first cap : List AV) (e1 : Env) (σ : Store) (lp : SObj) : Cont (fun n => rangeIn (On n) k first cap e1 σ lp) (rangeIn O k first cap e1 σ lp) := by
  simp only [rangeIn, h.ent]
  split
  · exact .bind (h.call _ _ _) fun _ => .const _
  · exact .const _
theorem OrcC.exec (h : OrcC On O) (hI : IterC In I) : ∀ (c : CCode) (ro : Option Nat) (e : Env) (σ : Store), Cont (fun n => Ev.exec (On n) (In n) ro c e σ) (Ev.exec O I ro c e σ) := by
  intro c
  induction c with
  | skip => intro ro e σ; exact .const _
  | region ops => intro ro e σ; simp only [Ev.exec]; exact .bind (h.opers _ _ _) fun _ => .const _
  | seq a b iha ihb =>
    intro ro e σ
    simp only [Ev.exec]
    refine .bind (iha _ _ _) fun x => ?_
    obtain ⟨x, e', σ'⟩ := x
    cases x
    · exact ihb _ _ _
    · exact .const _
    · exact .const _
  | cond c a b iha ihb =>
    intro ro e σ
    simp only [Ev.exec]
    refine .bind (.const _) fun t => ?_
    split
    · split
      · exact iha _ _ _
      · exact ihb _ _ _
    · exact .const _
  | block id c ih => intro ro e σ; simp only [Ev.exec]; exact .bind (ih _ _ _) fun _ => .const _
  | loop live trim c ih => intro ro e σ; simp only [Ev.exec]; exact hI _ _ _ _ _ fun e σ => ih _ _ _
  | rangeFunc f live params as body _ _ =>
    intro ro e σ
    simp only [Ev.exec]
    refine .bind (.const _) fun g => ?_
    split
    · split
      · exact h.range _ _ _ _ _ _
      · split
        · exact h.range _ _ _ _ _ _
        · exact .const _
    · exact .const _
  | exit id => intro ro e σ; exact .const _
  | ret => intro ro e σ; exact .const _
theorem OrcC.func (h : OrcC On O) (hI : IterC In I) (f : CFunc) (args : List AV) (σ : Store) : Cont (fun n => runFunc (On n) (In n) f args σ) (runFunc O I f args σ) := by
  simp only [runFunc]
  split
  · exact .bind (h.exec hI _ _ _ _) fun _ => .const _
  · exact .const _
theorem OrcC.rnd (h : OrcC On O) (hI : IterC In I) (l : Nat) (args : List AV) (σ : Store) : Cont (fun n => runRound (On n) (In n) l args σ) (runRound O I l args σ) := by
  simp only [runRound]
  split
  · refine .bind (.const _) fun e1 => .bind (h.exec hI _ _ _ _) fun x => ?_
    split
    · split
      · exact .bind (h.exec hI _ _ _ _) fun _ => .const _
      · exact .const _
    · exact .const _
  · exact .const _

/-! ### Loops -/
theorem iterN_cont {fn : Nat → Env → Store → R3} {f : Env → Store → R3} {s : Env → Store → Option (Env × Store)} (h : ∀ e σ, Cont (fun n => fn n e σ) (f e σ)) : ∀ (m : Nat) (e : Env) (σ : Store), Cont (fun n => iterN m (fn n) s e σ) (iterN m f s e σ)
  | 0, _, _ => .const _
  | m + 1, e, σ => by
    simp only [iterN]
    refine .bind (.const _) fun x => .bind (h _ _) fun y => ?_
    obtain ⟨y, e2, σ2⟩ := y
    cases y
    · exact iterN_cont h m _ _
    · exact .const _
    · exact .const _
theorem iterN_up {f : Env → Store → R3} {s : Env → Store → Option (Env × Store)} : ∀ {m : Nat} {e : Env} {σ : Store} {r : CExit × Env × Store}, iterN m f s e σ = some r → iterN (m + 1) f s e σ = some r
  | 0, e, σ, r, h => by simp [iterN] at h
  | m + 1, e, σ, r, h => by
    rw [iterN] at h ⊢
    simp only [Option.bind_eq_some_iff] at h ⊢
    obtain ⟨x, h1, y, h2, h⟩ := h
    refine ⟨x, h1, y, h2, ?_⟩
    obtain ⟨y, e2, σ2⟩ := y
    cases y
    · exact iterN_up h
    · exact h
    · exact h
theorem iterN_le {f : Env → Store → R3} {s : Env → Store → Option (Env × Store)} {m m' : Nat} (hm : m ≤ m') {e : Env} {σ : Store} {r : CExit × Env × Store} (h : iterN m f s e σ = some r) : iterN m' f s e σ = some r := by
  induction hm with
  | refl => exact h
  | step _ ih => exact iterN_up ih
noncomputable def lim {α : Type} (f : Nat → Option α) : Option α := open Classical in if h : ∃ n r, f n = some r then f (Classical.choose h) else none
theorem lim_cont {α : Type} {f : Nat → Option α} (up : ∀ n r, f n = some r → f (n + 1) = some r) : Cont f (lim f) where
  up := up
  lim r := by
    have le : ∀ {m n : Nat} {r : α}, m ≤ n → f m = some r → f n = some r := fun {m n r} hmn hr => by
      induction hmn with
      | refl => exact hr
      | step _ ih => exact up _ _ ih
    unfold lim
    constructor
    · intro h
      split at h
      · exact ⟨_, h⟩
      · cases h
    · rintro ⟨n, hn⟩
      have hex : ∃ n r, f n = some r := ⟨n, r, hn⟩
      rw [dif_pos hex]
      obtain ⟨r', hr'⟩ := Classical.choose_spec hex
      rcases Nat.le_total n (Classical.choose hex) with h | h
      · exact le h hn
      · rw [hr']
        have := le h hr'
        rw [hn] at this
        exact this.symm
noncomputable def itL : Iter := fun f s e σ => lim fun m => iterN m f s e σ
theorem itL_cont (f : Env → Store → R3) (s : Env → Store → Option (Env × Store)) (e : Env) (σ : Store) : Cont (fun m => iterN m f s e σ) (itL f s e σ) := lim_cont fun _ _ h => iterN_up h
theorem iterC_chain {c : Nat → Nat} (hc : ∀ n, c n ≤ c (n + 1)) (hI : ∀ f s e σ r, I f s e σ = some r ↔ ∃ n, iterN (c n) f s e σ = some r) : IterC (fun n => iterN (c n)) I := by
  intro fn f s e σ h
  have mono : ∀ {n n' : Nat}, n ≤ n' → c n ≤ c n' := fun {n n'} hn => by
    induction hn with
    | refl => exact Nat.le_refl _
    | step _ ih => exact Nat.le_trans ih (hc _)
  refine ⟨fun n r hr => iterN_le (hc n) ((iterN_cont h (c n) e σ).up n r hr), fun r => ?_⟩
  rw [hI]
  constructor
  · rintro ⟨m, hm⟩
    obtain ⟨n, hn⟩ := ((iterN_cont h (c m) e σ).lim r).1 hm
    exact ⟨max m n, iterN_le (mono (Nat.le_max_left _ _)) ((iterN_cont h (c m) e σ).le (Nat.le_max_right _ _) hn)⟩
  · rintro ⟨n, hn⟩
    exact ⟨n, ((iterN_cont h (c n) e σ).lim r).2 ⟨n, hn⟩⟩
theorem iterC_itL : IterC iterN itL := iterC_chain (c := id) (fun _ => Nat.le_succ _) fun f s e σ r => (itL_cont f s e σ).lim r
theorem itL_ok : IterOk itL := fun f s e σ r h => by
  obtain ⟨n, hn⟩ := ((itL_cont f s e σ).lim r).1 h
  exact iterN_ok n f s e σ r hn
theorem itL_eq (f : Env → Store → R3) (s : Env → Store → Option (Env × Store)) (e : Env) (σ : Store) :
    itL f s e σ = (s e σ).bind fun x => (f x.1 x.2).bind fun y => match y.1 with | .normal => itL f s y.2.1 y.2.2 | .exit id => some (.exit id, y.2) | .ret => some (.ret, y.2) := by
  refine Cont.unique (itL_cont f s e σ).shift ?_
  simp only [iterN]
  refine .bind (.const _) fun x => .bind (.const _) fun y => ?_
  obtain ⟨y, e2, σ2⟩ := y
  cases y
  · exact itL_cont f s _ _
  · exact .const _
  · exact .const _

/-! ### The program -/
variable {T : Tab}
theorem evF_up : ∀ n, (∀ k as σ r, (evF T n).call k as σ = some r → (evF T (n + 1)).call k as σ = some r) ∧ (∀ l as σ r, (evF T n).round l as σ = some r → (evF T (n + 1)).round l as σ = some r)
  | 0 => ⟨fun k as σ r h => by simp [evF] at h, fun l as σ r h => by simp [evF] at h⟩
  | n + 1 => by
    obtain ⟨h1, h2⟩ := evF_up n
    have hO : OrcC (fun i => if i = 0 then evF T n else evF T (n + 1)) (evF T (n + 1)) := by
      refine ⟨fun k as σ => ?_, fun l as σ => ?_, fun i k => ?_⟩
      · have := Cont.two (h1 k as σ)
        refine ⟨fun i r hr => ?_, fun r => ?_⟩
        · by_cases hi : i = 0
          · subst hi; simp at hr ⊢; exact h1 _ _ _ _ hr
          · simp [hi] at hr ⊢; exact hr
        · rw [this.lim r]
          constructor
          · rintro ⟨i, hi⟩; exact ⟨i, by by_cases h0 : i = 0 <;> simpa [h0] using hi⟩
          · rintro ⟨i, hi⟩; exact ⟨i, by by_cases h0 : i = 0 <;> simpa [h0] using hi⟩
      · have := Cont.two (h2 l as σ)
        refine ⟨fun i r hr => ?_, fun r => ?_⟩
        · by_cases hi : i = 0
          · subst hi; simp at hr ⊢; exact h2 _ _ _ _ hr
          · simp [hi] at hr ⊢; exact hr
        · rw [this.lim r]
          constructor
          · rintro ⟨i, hi⟩; exact ⟨i, by by_cases h0 : i = 0 <;> simpa [h0] using hi⟩
          · rintro ⟨i, hi⟩; exact ⟨i, by by_cases h0 : i = 0 <;> simpa [h0] using hi⟩
      · have : ∀ n, (evF T n).ent = fun k => (T.ext k).isNone := fun n => by cases n <;> rfl
        by_cases hi : i = 0 <;> simp [hi, this]
    have hI : IterC (fun i => iterN (if i = 0 then n else n + 1)) (iterN (n + 1)) := iterC_chain (fun i => by by_cases hi : i = 0 <;> simp [hi]) fun f s e σ r =>
      ⟨fun h => ⟨1, by simpa using h⟩, fun ⟨i, hi⟩ => by
        by_cases h0 : i = 0
        · subst h0; simp at hi; exact iterN_up hi
        · simpa [h0] using hi⟩
    refine ⟨fun k as σ r h => ?_, fun l as σ r h => ?_⟩
    · rw [evF] at h ⊢
      simp only at h ⊢
      split at h
      · exact h
      · rw [Option.bind_eq_some_iff] at h ⊢
        obtain ⟨f, h3, h4⟩ := h
        exact ⟨f, h3, (hO.func hI f as σ).up 0 r h4⟩
    · rw [evF] at h ⊢
      exact (hO.rnd hI l as σ).up 0 r h
noncomputable def evL (T : Tab) : Orc := ⟨fun k as σ => lim fun n => (evF T n).call k as σ, fun l as σ => lim fun n => (evF T n).round l as σ, fun k => (T.ext k).isNone⟩
theorem evL_cont : OrcC (evF T) (evL T) := ⟨fun k as σ => lim_cont fun n r h => (evF_up n).1 k as σ r h, fun l as σ => lim_cont fun n r h => (evF_up n).2 l as σ r h, fun n k => by cases n <;> rfl⟩
theorem evL_code {k : Nat} {f : CFunc} (hx : T.ext k = none) (hc : T.code k = some f) (args : List AV) (σ : Store) : (evL T).call k args σ = runFunc (evL T) itL f args σ := by
  refine Cont.unique (evL_cont.call k args σ).shift ?_
  simp only [evF, hx, hc, Option.bind_some]
  exact evL_cont.func iterC_itL f args σ
theorem evL_ext {k : Nat} {F : List AV → Option (AV × Store)} (hx : T.ext k = some F) (args : List AV) (σ : Store) : (evL T).call k args σ = if los 0 args = true ∧ σ = [] then F args else none := by
  refine Cont.unique (evL_cont.call k args σ).shift ?_
  simp only [evF, hx]
  exact .const _
theorem evL_round (l : Nat) (args : List AV) (σ : Store) : (evL T).round l args σ = runRound (evL T) itL l args σ := by
  refine Cont.unique (evL_cont.round l args σ).shift ?_
  simp only [evF]
  exact evL_cont.rnd iterC_itL l args σ
theorem evL_ok {P : Program} (hT : TabOk P T) : CallOk P (evL T) := fun k args σ r σ' h Γ w vs s hv => by
  obtain ⟨n, hn⟩ := ((evL_cont.call k args σ).lim (r, σ')).1 h
  exact (evF_ok hT n).1 k args σ r σ' hn Γ w vs s hv
end Go.Ev
