/- Part of the proofs about this seat's program (module EvM). -/
import Derived.Test.YtbkabnhkclbepaaEvL
set_option linter.unusedSectionVars false
set_option linter.unusedSimpArgs false
set_option linter.unusedVariables false
namespace Go.Ev
variable {O : Orc} {e e' : Env} {σ σ' τ : Store}

/-! ### A region in whatever order -/
theorem look_erase : ∀ (l : List (Nat × AV)) (d t : Nat), look (erase l d) t = if t = d then none else look l t
  | [], d, t => by simp [look, erase]
  | (k, v) :: r, d, t => by
    simp only [erase]
    split
    · rename_i h
      rw [look_erase r d t]
      simp only [look]
      subst h
      split
      · rfl
      · rw [if_neg (Ne.symm ‹_›)]
    · simp only [look]
      rw [look_erase r d t]
      split
      · rename_i h1 h2
        subst h2
        rw [if_neg h1]
      · rfl
theorem get_set (e : Env) (d : Option Nat) (v : AV) (t : Nat) : (e.set d v).get t = if d = some t then some v else e.get t := by
  cases d with
  | none => simp [Env.set]
  | some k => simp [Env.set, Env.get, look]
theorem get_forget (e : Env) (d : Option Nat) (t : Nat) : (e.forget d).get t = if d = some t then none else e.get t := by
  cases d with
  | none => simp [Env.forget]
  | some k =>
    simp only [Env.forget, Env.get, look_erase]
    by_cases h : t = k
    · simp [h]
    · simp [h, Ne.symm h]
@[simp] theorem marks_set (e : Env) (d : Option Nat) (v : AV) : (e.set d v).marks = e.marks := by cases d <;> rfl
@[simp] theorem marks_unset (e : Env) (d : Option Nat) : (e.unset d).marks = e.marks := by cases d <;> rfl
@[simp] theorem marks_forget (e : Env) (d : Option Nat) : (e.forget d).marks = e.marks := by cases d <;> rfl
theorem get_unset (e : Env) (d : Option Nat) (t : Nat) : (e.unset d).get t = if d = some t then some (.tup []) else e.get t := get_set e d _ t

/-- Nobody can tell them apart. -/
def Eqv (e e' : Env) : Prop := (∀ t, e.get t = e'.get t) ∧ e.marks = e'.marks
theorem Eqv.refl (e : Env) : Eqv e e := ⟨fun _ => rfl, rfl⟩
theorem Eqv.symm (h : Eqv e e') : Eqv e' e := ⟨fun t => (h.1 t).symm, h.2.symm⟩
theorem Eqv.trans {e'' : Env} (h : Eqv e e') (k : Eqv e' e'') : Eqv e e'' := ⟨fun t => (h.1 t).trans (k.1 t), h.2.trans k.2⟩

def Agree (l : List Nat) (e e' : Env) : Prop := ∀ t, t ∈ l → e.get t = e'.get t
theorem Agree.left {l m : List Nat} (h : Agree (l ++ m) e e') : Agree l e e' := fun t ht => h t (List.mem_append_left _ ht)
theorem Agree.right {l m : List Nat} (h : Agree (l ++ m) e e') : Agree m e e' := fun t ht => h t (List.mem_append_right _ ht)
theorem opnd_agree {x : Opnd} (h : Agree (opT x) e e') : x.ev e = x.ev e' := by
  cases x with
  | t i => exact h i (by simp [opT])
  | c a => rfl
theorem opnds_agree : ∀ {l : List Opnd}, Agree (opsT l) e e' → evs e l = evs e' l
  | [], _ => rfl
  | x :: xs, h => by simp only [evs, opnd_agree (Agree.left h), opnds_agree (Agree.right h)]
theorem opt_agree {x : Option Opnd} {d : Int} (h : Agree (optT x) e e') : optInt e d x = optInt e' d x := by
  cases x with
  | none => rfl
  | some x =>
    have : x.ev e = x.ev e' := by
      cases x with
      | t i => exact h i (by simp [optT])
      | c a => rfl
    simp only [optInt, this]
theorem fillP_agree : ∀ {ps : List (Nat × Nat × Opnd)} {cs : List AV}, Agree (opsT (ps.map (·.2.2))) e e' → fillP e cs ps = fillP e' cs ps
  | [], _, _ => rfl
  | (o, s, x) :: ps, cs, h => by
    simp only [List.map_cons, opsT] at h
    simp only [fillP, opnd_agree (Agree.left h)]
    cases x.ev e' with
    | none => rfl
    | some a => simp only [Option.bind_some]; split; exact fillP_agree (Agree.right h); rfl
theorem fillR_agree {sz : Nat} : ∀ {ps : List (Nat × Opnd)} {cs : List (List AV)}, Agree (opsT (ps.map (·.2))) e e' → fillR e sz cs ps = fillR e' sz cs ps
  | [], _, _ => rfl
  | (o, x) :: ps, cs, h => by
    simp only [List.map_cons, opsT] at h
    simp only [fillR, opnd_agree (Agree.left h)]
    cases x.ev e' with
    | none => rfl
    | some a => simp only [Option.bind_some]; split; exact fillR_agree (Agree.right h); rfl
theorem awayL_agree {p : AV} : ∀ {l : List Nat}, Agree l e e' → awayL e p l = awayL e' p l
  | [], _ => rfl
  | t :: l, h => by
    simp only [awayL, h t (by simp)]
    have ih := awayL_agree (p := p) (l := l) fun t ht => h t (by simp [ht])
    rw [ih]
theorem evOp_agree {c : COp} (h : Agree c.reads e e') : evOp e σ c = evOp e' σ c := by
  cases c <;> simp only [COp.reads] at h <;> simp only [evOp]
  case mv => rw [opnd_agree h]
  case pick => rw [opnd_agree h.left, opnd_agree h.right.left, opnd_agree h.right.right]
  case frzv => rw [opnd_agree h]
  case box => rw [opnd_agree h]
  case boxF => rw [opnd_agree h]
  case build => rw [fillP_agree h]
  case buildO => rw [fillP_agree h]
  case bsl => rw [fillR_agree h]
  case bslF => rw [fillR_agree h]
  case ld => rw [opnd_agree h]
  case ldF => rw [opnd_agree h]
  case ldD => simp only [opnd_agree h.left, awayL_agree h.right]
  case mput => rw [opnd_agree h.left, opnd_agree h.right.left, opnd_agree h.right.right]
  case mget => rw [opnd_agree h.left, opnd_agree h.right]
  case st => rw [opnd_agree h.left, opnd_agree h.right]
  case nilck => rw [opnd_agree h]
  case bin => rw [opnd_agree h.left, opnd_agree h.right]
  case eqs => rw [opnd_agree h.left, opnd_agree h.right]
  case eqb => rw [opnd_agree h.left, opnd_agree h.right]
  case un => rw [opnd_agree h]
  case conv => rw [opnd_agree h]
  case mkfn => rw [opnds_agree h.left, opnds_agree h.right]
  case mksl => rw [opnd_agree h.left, opnd_agree h.right]
  case slc => simp only [opnd_agree h.left, opt_agree h.right.left, opt_agree h.right.right.left, opt_agree h.right.right.right]
  case slcS => simp only [opnd_agree h.left, opt_agree h.right.left, opt_agree h.right.right]
  case faddr => rw [opnd_agree h]
  case fld => rw [opnd_agree h]
  case iaddr => rw [opnd_agree h.left, opnd_agree h.right]
  case iaddrA => rw [opnd_agree h.left, opnd_agree h.right]
  case idxS => rw [opnd_agree h.left, opnd_agree h.right]
  case idxA => rw [opnd_agree h.left, opnd_agree h.right]
  case ext => rw [opnd_agree h]
  case len => rw [opnd_agree h]
  case lenS => rw [opnd_agree h]
  case app => rw [opnd_agree h.left, opnd_agree h.right]
  case appZ => rw [opnd_agree h.left, opnd_agree h.right]
  case appN => rw [opnd_agree h.left, opnd_agree h.right]
  case appF => rw [opnd_agree h.left, opnd_agree h.right]
  case copy => rw [opnd_agree h.left, opnd_agree h.right]
  case mm => rw [opnd_agree h.left, opnd_agree h.right]
def itReads : Item' → List Nat
  | .op c => c.reads
  | .callP _ as | .callA _ as | .callI _ as | .callR _ as | .callF _ as => opsT as
  | .callv f as => opT f ++ opsT as
theorem evItem_agree {it : Item'} (h : Agree (itReads it) e e') : evItem O e σ it = evItem O e' σ it := by
  cases it <;> simp only [itReads] at h <;> simp only [evItem]
  case op => exact evOp_agree h
  case callP => rw [opnds_agree h]
  case callA => rw [opnds_agree h]
  case callI => rw [opnds_agree h]
  case callR => rw [opnds_agree h]
  case callF => rw [opnds_agree h]
  case callv => rw [opnd_agree h.left, opnds_agree h.right]
theorem reads_eq (o : COper) : o.reads = (match o.guard with | some (t, _) => [t] | none => []) ++ itReads o.it := by
  unfold COper.reads itReads
  cases o.it <;> rfl

/-- What an operation does to the temporaries: it sets its own, or forgets it. -/
def EnvStep (o : COper) (e e1 : Env) : Prop := (∃ r, e1 = e.set o.dst r) ∨ e1 = e.unset o.dst
theorem evOper_iff {o : COper} {e1 : Env} {σ1 : Store} : evOper O e σ o = some (e1, σ1) ↔
    ((o.guard = none ∨ ∃ t b, o.guard = some (t, b) ∧ e.get t = some (.v (.bool b))) ∧ ∃ r, evItem O e σ o.it = some (r, σ1) ∧ e1 = e.set o.dst r) ∨
    ((∃ t b, o.guard = some (t, b) ∧ (e.get t = some (.v (.bool !b)) ∨ e.get t = some (.tup []))) ∧ e1 = e.unset o.dst ∧ σ1 = σ) := by
  unfold evOper
  cases hg : o.guard with
  | none =>
    simp only [Option.bind_eq_some_iff, true_or, true_and, reduceCtorEq, false_and, exists_false, or_false]
    constructor
    · rintro ⟨⟨r, s⟩, h1, h2⟩; cases h2; exact ⟨r, h1, rfl⟩
    · rintro ⟨r, h1, rfl⟩; exact ⟨(r, σ1), h1, rfl⟩
  | some tw =>
    obtain ⟨t, want⟩ := tw
    simp only [Option.bind_eq_some_iff]
    constructor
    · rintro ⟨b, hb, h⟩
      split at h
      · rename_i b
        split at h
        · rename_i hw
          subst hw
          rw [Option.bind_eq_some_iff] at h
          obtain ⟨⟨r, s⟩, h1, h2⟩ := h
          cases h2
          exact .inl ⟨.inr ⟨t, b, rfl, hb⟩, r, h1, rfl⟩
        · rename_i hw
          cases h
          refine .inr ⟨⟨t, want, rfl, .inl ?_⟩, rfl, rfl⟩
          rw [hb]; cases b <;> cases want <;> simp_all
      · cases h
        exact .inr ⟨⟨t, want, rfl, .inr hb⟩, rfl, rfl⟩
      · cases h
    · rintro (⟨h1, r, h2, rfl⟩ | ⟨⟨t', b', h1, h2⟩, rfl, rfl⟩)
      · rcases h1 with h1 | ⟨t', b', h1, h3⟩
        · cases h1
        · cases h1
          refine ⟨_, h3, ?_⟩
          simp [h2]
      · cases h1
        rcases h2 with h2 | h2
        · refine ⟨_, h2, ?_⟩
          cases want <;> simp
        · exact ⟨_, h2, rfl⟩
theorem evOper_env {o : COper} {e1 : Env} {σ1 : Store} (h : evOper O e σ o = some (e1, σ1)) : EnvStep o e e1 := by
  rcases evOper_iff.1 h with ⟨_, r, _, h⟩ | ⟨_, h, _⟩
  · exact .inl ⟨r, h⟩
  · exact .inr h
theorem EnvStep.get {o : COper} {e1 : Env} (h : EnvStep o e e1) {t : Nat} (ht : o.dst ≠ some t) : e1.get t = e.get t := by
  rcases h with ⟨r, rfl⟩ | rfl
  · rw [get_set, if_neg ht]
  · rw [get_unset, if_neg ht]
theorem EnvStep.marks {o : COper} {e1 : Env} (h : EnvStep o e e1) : e1.marks = e.marks := by
  rcases h with ⟨r, rfl⟩ | rfl <;> simp
/-- The same operation over temporaries that agree where it looks, and another store on which the item answers alike. -/
theorem evOper_move {o : COper} {e1 : Env} {σ1 τ1 : Store} (h : evOper O e σ o = some (e1, σ1)) (ha : Agree o.reads e e')
    (hit : ∀ r, evItem O e σ o.it = some (r, σ1) → evItem O e σ o.it = some (r, σ1) ∧ evItem O e' τ o.it = some (r, τ1)) (hsk : σ1 = σ → τ1 = τ) :
    ∃ e1', evOper O e' τ o = some (e1', τ1) ∧ ((∃ r, e1 = e.set o.dst r ∧ e1' = e'.set o.dst r) ∨ (e1 = e.unset o.dst ∧ e1' = e'.unset o.dst)) := by
  rw [reads_eq] at ha
  rcases evOper_iff.1 h with ⟨hg, r, h2, rfl⟩ | ⟨⟨t, b, hg, h2⟩, rfl, rfl⟩
  · refine ⟨e'.set o.dst r, evOper_iff.2 (.inl ⟨?_, r, (hit r h2).2, rfl⟩), .inl ⟨r, rfl, rfl⟩⟩
    rcases hg with hg | ⟨t, b, hg, h3⟩
    · exact .inl hg
    · exact .inr ⟨t, b, hg, by rw [← ha t (by simp [hg])]; exact h3⟩
  · refine ⟨e'.unset o.dst, evOper_iff.2 (.inr ⟨⟨t, b, hg, by rw [← ha t (by simp [hg])]; exact h2⟩, rfl, hsk rfl⟩), .inr ⟨rfl, rfl⟩⟩
theorem step_eqv {o : COper} {e1 e1' : Env} (he : Eqv e e') (h : (∃ r, e1 = e.set o.dst r ∧ e1' = e'.set o.dst r) ∨ (e1 = e.unset o.dst ∧ e1' = e'.unset o.dst)) : Eqv e1 e1' := by
  rcases h with ⟨r, rfl, rfl⟩ | ⟨rfl, rfl⟩
  · exact ⟨fun t => by rw [get_set, get_set, he.1], by simp [he.2]⟩
  · exact ⟨fun t => by rw [get_unset, get_unset, he.1], by simp [he.2]⟩
theorem evOper_eqv {o : COper} {e1 : Env} {σ1 : Store} (he : Eqv e e') (h : evOper O e σ o = some (e1, σ1)) : ∃ e1', evOper O e' σ o = some (e1', σ1) ∧ Eqv e1 e1' := by
  obtain ⟨e1', h1, h2⟩ := evOper_move (τ := σ) (τ1 := σ1) h (fun t _ => he.1 t) (fun r hr => ⟨hr, by rw [← evItem_agree (fun t _ => he.1 t)]; exact hr⟩) (fun h => h)
  exact ⟨e1', h1, step_eqv he h2⟩
theorem evOpers_eqv : ∀ {l : List COper} {e e' e1 : Env} {σ σ1 : Store}, Eqv e e' → evOpers O l e σ = some (e1, σ1) → ∃ e1', evOpers O l e' σ = some (e1', σ1) ∧ Eqv e1 e1'
  | [], e, e', e1, σ, σ1, he, h => by simp only [evOpers] at h; cases h; exact ⟨e', rfl, he⟩
  | o :: l, e, e', e1, σ, σ1, he, h => by
    simp only [evOpers, Option.bind_eq_some_iff] at h
    obtain ⟨⟨e2, σ2⟩, h1, h2⟩ := h
    obtain ⟨e2', h3, h4⟩ := evOper_eqv he h1
    obtain ⟨e1', h5, h6⟩ := evOpers_eqv h4 h2
    exact ⟨e1', by simp only [evOpers, h3, Option.bind_some]; exact h5, h6⟩

/-! What the kinds promise -/
theorem pure_item {it : Item'} {r : AV} (hk : it.kind = .pure) (h : evItem O e σ it = some (r, σ')) : σ' = σ ∧ ∀ τ, evItem O e τ it = some (r, τ) := by
  cases it with
  | op c =>
    simp only [Item'.kind] at hk
    simp only [evItem] at h ⊢
    cases c <;> simp only [COp.kind] at hk <;> first
      | (cases hk; done)
      | (simp only [evOp, Option.bind_eq_some_iff] at h ⊢
         (repeat' (first | (obtain ⟨_, _, h⟩ := h) | split at h | rw [Option.bind_eq_some_iff] at h)) <;> simp_all)
  | callP k as =>
    simp only [evItem, Option.bind_eq_some_iff] at h ⊢
    obtain ⟨vs, h1, h⟩ := h
    split at h
    · rw [Option.bind_eq_some_iff] at h
      obtain ⟨⟨u, s⟩, h2, h⟩ := h
      simp only [Option.bind_eq_some_iff] at h
      obtain ⟨v, h3, h⟩ := h
      cases h
      refine ⟨rfl, fun τ => ⟨vs, h1, ?_⟩⟩
      rw [if_pos ‹_›]
      simp [h2, h3]
    · cases h
  | callA _ _ => cases hk
  | callI _ _ => cases hk
  | callF _ _ => cases hk
  | callR _ _ => cases hk
  | callv _ _ => cases hk

theorem get_app {σ τ : Store} {o : Nat} {ob : SObj} (h : σ[o]? = some ob) : (σ ++ τ)[o]? = some ob := by
  rw [List.getElem?_append_left (List.getElem?_eq_some_iff.1 h).1]; exact h
theorem cellsAt_app {σ τ : Store} {p : AV} {cs : List AV} (h : cellsAt σ p = some cs) : cellsAt (σ ++ τ) p = some cs := by
  unfold cellsAt at h ⊢
  cases p <;> simp only at h ⊢ <;> try exact h
  rename_i o g i off
  cases ho : σ[o]? with
  | none => rw [ho] at h; cases h
  | some ob => rw [get_app ho]; rw [ho] at h; exact h
/-- A load sees the same in a longer store .. -/
theorem load_up {it : Item'} {r : AV} (hk : it.kind = .load) (h : evItem O e σ it = some (r, σ')) (τ : Store) : σ' = σ ∧ evItem O e (σ ++ τ) it = some (r, σ ++ τ) := by
  cases it with
  | op c =>
    simp only [Item'.kind] at hk
    simp only [evItem] at h ⊢
    cases c <;> simp only [COp.kind] at hk <;> first
      | (cases hk; done)
      | skip
    case ld =>
      simp only [evOp, Option.bind_eq_some_iff] at h ⊢
      obtain ⟨p, h1, cs, h2, v, h3, h⟩ := h
      cases h
      exact ⟨rfl, p, h1, cs, cellsAt_app h2, _, h3, rfl⟩
    case ldD =>
      simp only [evOp, Option.bind_eq_some_iff] at h ⊢
      obtain ⟨p, h1, h⟩ := h
      split at h
      · rename_i haw
        simp only [Option.bind_eq_some_iff] at h
        obtain ⟨cs, h2, v, h3, h⟩ := h
        cases h
        refine ⟨rfl, p, h1, ?_⟩
        rw [if_pos haw]
        simp only [Option.bind_eq_some_iff]
        exact ⟨cs, cellsAt_app h2, _, h3, rfl⟩
      · cases h
    case mget =>
      simp only [evOp, Option.bind_eq_some_iff] at h ⊢
      obtain ⟨p, h1, i, h2, h⟩ := h
      split at h
      · split at h
        · rename_i ho
          split at h
          · cases h
            refine ⟨rfl, _, h1, _, h2, ?_⟩
            simp only [get_app ho]
            rw [if_pos ‹_›]
          · cases h
        · cases h
      · cases h
    case slc sz x lo hi mx =>
      simp only [evOp, Option.bind_eq_some_iff] at h ⊢
      obtain ⟨p, h1, h⟩ := h
      split at h
      · simp only [Option.bind_eq_some_iff] at h
        obtain ⟨l, h2, m, h3, n, h4, h⟩ := h
        split at h
        · cases h
          refine ⟨rfl, _, h1, ?_⟩
          simp only [Option.bind_eq_some_iff]
          exact ⟨l, h2, m, h3, n, h4, by rw [if_pos ‹_›]⟩
        · cases h
      · rename_i o g off len clip
        split at h
        · rename_i ho
          simp only [Option.bind_eq_some_iff] at h
          obtain ⟨l, h2, m, h3, n, h4, h⟩ := h
          split at h
          · cases h
            refine ⟨rfl, _, h1, ?_⟩
            simp only [get_app ho, Option.bind_eq_some_iff]
            exact ⟨l, h2, m, h3, n, h4, by rw [if_pos ‹_›]⟩
          · cases h
        · cases h
      · cases h
    case iaddr sz x i =>
      simp only [evOp, Option.bind_eq_some_iff] at h ⊢
      obtain ⟨p, h1, n, h2, h⟩ := h
      split at h
      · rename_i k n
        split at h
        · rename_i h0
          split at h
          · simp only [Option.bind_eq_some_iff] at h
            obtain ⟨c, h3, h⟩ := h
            split at h
            · cases h
              refine ⟨rfl, _, h1, _, h2, ?_⟩
              simp only [if_pos h0, Option.bind_eq_some_iff]
              exact ⟨c, h3, by rw [if_pos ‹_›]⟩
            · cases h
          · rename_i o g off len clip
            split at h
            · rename_i ho
              split at h
              · cases h
                refine ⟨rfl, _, h1, _, h2, ?_⟩
                simp only [if_pos h0, get_app ho]
                rw [if_pos ‹_›]
              · cases h
            · cases h
          · cases h
        · cases h
      · cases h
  | _ => cases hk

/-- The objects that an operation of kind 'load' may ask for are there already. -/
def Known (n : Nat) (e : Env) : Prop := ∀ t a o, e.get t = some a → a.obj? = some o → o < n
theorem opnd_known {n : Nat} {x : Opnd} {a : AV} {o : Nat} (hk : Known n e) (h : x.ev e = some a) (hc : ∀ c, x = .c c → c.lo 0 = true) (ho : a.obj? = some o) : o < n := by
  cases x with
  | t i => exact hk i a o h ho
  | c c =>
    simp only [Opnd.ev] at h; cases h
    have := hc _ rfl
    cases a <;> simp_all [AV.lo, AV.obj?]
/-- Constants name no object. -/
def Opnd.okC : Opnd → Bool
  | .t _ => true
  | .c a => a.lo 0
theorem get_down {σ τ : Store} {o : Nat} {ob : SObj} (h : (σ ++ τ)[o]? = some ob) (ho : o < σ.length) : σ[o]? = some ob := by
  rw [List.getElem?_append_left ho] at h; exact h
def loadC' : Item' → Bool
  | .op (.ld _ _ x) => x.okC
  | .op (.ldD _ _ x _) => x.okC
  | .op (.mget _ _ _ x _) => x.okC
  | .op (.iaddr _ x _) => x.okC
  | .op (.slc _ x _ _ _) => x.okC
  | _ => true
/-- .. and in a shorter one, if what it asks for is there. -/
theorem load_down {it : Item'} {r : AV} {τ : Store} (hk : it.kind = .load) (hkn : Known σ.length e) (hc : loadC' it = true)
    (h : evItem O e (σ ++ τ) it = some (r, σ')) : evItem O e σ it = some (r, σ) := by
  cases it with
  | op c =>
    simp only [Item'.kind] at hk
    simp only [evItem] at h ⊢
    cases c <;> simp only [COp.kind] at hk <;> first
      | (cases hk; done)
      | skip
    case ld sz ag x =>
      simp only [loadC'] at hc
      simp only [evOp, Option.bind_eq_some_iff] at h ⊢
      obtain ⟨p, h1, cs, h2, v, h3, h⟩ := h
      cases h
      refine ⟨p, h1, cs, ?_, _, h3, rfl⟩
      unfold cellsAt at h2 ⊢
      cases p <;> simp only at h2 ⊢ <;> try exact h2
      rename_i o g i off
      have hn := opnd_known hkn h1 (fun c hx => by subst hx; exact hc) (o := o) rfl
      cases ho : (σ ++ τ)[o]? with
      | none => rw [ho] at h2; cases h2
      | some ob => rw [get_down ho hn]; rw [ho] at h2; exact h2
    case ldD sz ag x av =>
      simp only [loadC'] at hc
      simp only [evOp, Option.bind_eq_some_iff] at h ⊢
      obtain ⟨p, h1, h⟩ := h
      split at h
      · rename_i haw
        simp only [Option.bind_eq_some_iff] at h
        obtain ⟨cs, h2, v, h3, h⟩ := h
        cases h
        refine ⟨p, h1, ?_⟩
        rw [if_pos haw]
        simp only [Option.bind_eq_some_iff]
        refine ⟨cs, ?_, _, h3, rfl⟩
        unfold cellsAt at h2 ⊢
        cases p <;> simp only at h2 ⊢ <;> try exact h2
        rename_i o g i off
        have hn := opnd_known hkn h1 (fun c hx => by subst hx; exact hc) (o := o) rfl
        cases ho : (σ ++ τ)[o]? with
        | none => rw [ho] at h2; cases h2
        | some ob => rw [get_down ho hn]; rw [ho] at h2; exact h2
      · cases h
    case mget ok k z m key =>
      simp only [loadC'] at hc
      simp only [evOp, Option.bind_eq_some_iff] at h ⊢
      obtain ⟨p, h1, i, h2, h⟩ := h
      split at h
      · rename_i o k' n
        have hn := opnd_known hkn h1 (fun c hx => by subst hx; exact hc) (o := o) rfl
        split at h
        · rename_i ho
          split at h
          · cases h
            refine ⟨_, h1, _, h2, ?_⟩
            simp only [get_down ho hn]
            rw [if_pos ‹_›]
          · cases h
        · cases h
      · cases h
    case slc sz x lo hi mx =>
      simp only [loadC'] at hc
      simp only [evOp, Option.bind_eq_some_iff] at h ⊢
      obtain ⟨p, h1, h⟩ := h
      split at h
      · simp only [Option.bind_eq_some_iff] at h
        obtain ⟨l, h2, m, h3, n, h4, h⟩ := h
        split at h
        · cases h
          refine ⟨_, h1, ?_⟩
          simp only [Option.bind_eq_some_iff]
          exact ⟨l, h2, m, h3, n, h4, by rw [if_pos ‹_›]⟩
        · cases h
      · rename_i o g off len clip
        have hn := opnd_known hkn h1 (fun c hx => by subst hx; exact hc) (o := o) rfl
        split at h
        · rename_i ho
          simp only [Option.bind_eq_some_iff] at h
          obtain ⟨l, h2, m, h3, n, h4, h⟩ := h
          split at h
          · cases h
            refine ⟨_, h1, ?_⟩
            simp only [get_down ho hn, Option.bind_eq_some_iff]
            exact ⟨l, h2, m, h3, n, h4, by rw [if_pos ‹_›]⟩
          · cases h
        · cases h
      · cases h
    case iaddr sz x i =>
      simp only [loadC'] at hc
      simp only [evOp, Option.bind_eq_some_iff] at h ⊢
      obtain ⟨p, h1, n, h2, h⟩ := h
      split at h
      · rename_i k n
        split at h
        · rename_i h0
          split at h
          · simp only [Option.bind_eq_some_iff] at h
            obtain ⟨c, h3, h⟩ := h
            split at h
            · cases h
              refine ⟨_, h1, _, h2, ?_⟩
              simp only [if_pos h0, Option.bind_eq_some_iff]
              exact ⟨c, h3, by rw [if_pos ‹_›]⟩
            · cases h
          · rename_i o g off len clip
            have hn := opnd_known hkn h1 (fun c hx => by subst hx; exact hc) (o := o) rfl
            split at h
            · rename_i ho
              split at h
              · cases h
                refine ⟨_, h1, _, h2, ?_⟩
                simp only [if_pos h0, get_down ho hn]
                rw [if_pos ‹_›]
              · cases h
            · cases h
          · cases h
        · cases h
      · cases h
  | _ => cases hk
theorem ownL_app : ∀ {os : List (Nat × Nat)} {σ σ2 : Store} {cs cs2 : List AV}, ownL σ cs os = some (cs2, σ2) → ∃ τ, σ2 = σ ++ τ
  | [], σ, σ2, cs, cs2, h => by simp only [ownL] at h; cases h; exact ⟨[], by simp⟩
  | (off, sz) :: os, σ, σ2, cs, cs2, h => by
    simp only [ownL] at h
    split at h
    · split at h
      · obtain ⟨τ, rfl⟩ := ownL_app h
        exact ⟨[.row sz [] 0] ++ τ, by simp⟩
      · cases h
    · cases h
/-- What is only asked leaves the store as it was. -/
theorem read_item {it : Item'} {r : AV} (hk : it.kind = .read) (h : evItem O e σ it = some (r, σ')) : σ' = σ := by
  cases it with
  | op c => simp only [Item'.kind] at hk; cases c <;> simp only [COp.kind] at hk <;> cases hk
  | callR k as =>
    simp only [evItem, Option.bind_eq_some_iff] at h
    obtain ⟨vs, _, ⟨u, τ⟩, _, h⟩ := h
    split at h
    · cases h; rfl
    · cases h
  | callP _ _ => cases hk
  | callA _ _ => cases hk
  | callI _ _ => cases hk
  | callF _ _ => cases hk
  | callv _ _ => cases hk
theorem alloc_item {it : Item'} {r : AV} (hk : it.kind = .alloc) (h : evItem O e σ it = some (r, σ')) : ∃ τ, σ' = σ ++ τ := by
  cases it with
  | op c =>
    simp only [Item'.kind] at hk
    simp only [evItem] at h
    cases c
    case buildO =>
      simp only [evOp, Option.bind_eq_some_iff] at h
      obtain ⟨cs, _, ⟨cs2, σ2⟩, h2, h⟩ := h
      cases h
      exact ownL_app h2
    all_goals simp only [COp.kind] at hk
    all_goals first
      | (cases hk; done)
      | (simp only [evOp] at h
         (repeat' (first | (obtain ⟨_, _, h⟩ := h) | split at h | rw [Option.bind_eq_some_iff] at h)) <;> first
           | (cases h; done)
           | (cases h; exact ⟨_, rfl⟩)
           | (cases h; exact ⟨[], by simp⟩)
           | exact ⟨_, rfl⟩
           | exact ⟨[], by simp⟩)
  | callA k as =>
    simp only [evItem, Option.bind_eq_some_iff] at h
    obtain ⟨vs, h1, h⟩ := h
    split at h
    · rw [Option.bind_eq_some_iff] at h
      obtain ⟨⟨u, s⟩, h2, h⟩ := h
      rw [Option.bind_eq_some_iff] at h
      obtain ⟨v, h3, h⟩ := h
      cases h
      exact ⟨v, rfl⟩
    · cases h
  | callP _ _ => cases hk
  | callI _ _ => cases hk
  | callF _ _ => cases hk
  | callR _ _ => cases hk
  | callv _ _ => cases hk
end Go.Ev
