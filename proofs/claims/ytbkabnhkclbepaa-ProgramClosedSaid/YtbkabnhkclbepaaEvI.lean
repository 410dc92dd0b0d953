/- Part of the proofs about this seat's program (module EvI). -/
import Derived.Test.YtbkabnhkclbepaaEvH
set_option linter.unusedSectionVars false
set_option linter.unusedSimpArgs false
set_option linter.unusedVariables false
namespace Go.Ev
open Go.RowKit (Below)
variable {P : Program} {Γ Γ' : Ctx} {w w' : World} {σ σ' : Store} {e : Env} {a : Act} {av : AV}

theorem okRows_len {sz : Nat} : ∀ {xs : List (List AV)}, okRows sz xs = true → ∀ x ∈ xs, x.length = sz
  | [], _, x, h => by cases h
  | y :: ys, h, x, hx => by
    simp only [okRows, Bool.and_eq_true, decide_eq_true_eq] at h
    rcases List.mem_cons.1 hx with rfl | hx
    · exact h.1
    · exact okRows_len h.2.2 x hx
theorem okRows_plain {sz : Nat} : ∀ {xs : List (List AV)}, okRows sz xs = true → plains xs.flatten = true
  | [], _ => rfl
  | y :: ys, h => by
    simp only [okRows, Bool.and_eq_true, decide_eq_true_eq] at h
    have h2 := okRows_plain h.2.2
    rw [List.flatten_cons]
    have : ∀ (l m : List AV), plains l = true → plains m = true → plains (l ++ m) = true := by
      intro l m
      induction l with
      | nil => intro _ h; exact h
      | cons b l ih => intro h1 h2; simp only [List.cons_append, plains, Bool.and_eq_true] at h1 ⊢; exact ⟨h1.1, ih h1.2 h2⟩
    exact this _ _ h.2.1 h2
theorem okRows_append {sz : Nat} : ∀ {xs ys : List (List AV)}, okRows sz (xs ++ ys) = true → okRows sz xs = true ∧ okRows sz ys = true
  | [], ys, h => ⟨rfl, h⟩
  | x :: xs, ys, h => by
    simp only [List.cons_append, okRows, Bool.and_eq_true] at h ⊢
    have := okRows_append h.2.2
    exact ⟨⟨h.1, h.2.1, this.1⟩, this.2⟩

/-- A slice's cells in memory. -/
theorem fsl_cells {es : List (List AV)} {c : Bool} {y : Value} (h : VR Γ w (.fsl es c) y) (hne : es ≠ []) :
    ∃ b off sz cap, y = .slice (some ⟨b, off, none⟩) es.length cap ∧ es.length ≤ cap ∧ (c = true → cap = es.length) ∧ Γ.okB w b ∧ 0 < sz ∧ (∀ e ∈ es, e.length = sz) ∧ VRcells Γ w es.flatten (fun j => w.cell? ⟨b, off + j, none⟩) := by
  simp only [VR] at h
  obtain ⟨A, cap, rfl, h1, h2, h3⟩ := h
  rcases h3 with h3 | ⟨b, off, sz, rfl, h4, h5, h6, h7⟩
  · exact absurd h3 hne
  · exact ⟨b, off, sz, cap, rfl, h1, h2, h4, h5, h6, (VRrows_iff h6).1 h7⟩
theorem sl_cells {o g off len sz : Nat} {c : Bool} {y : Value} {es : List (List AV)} (s : SR P Γ σ w) (h : VR Γ w (.sl o g off len c) y) (ho : σ[o]? = some (.row sz es g)) (hlen : off + len ≤ es.length) (hpos : 0 < len) :
    ∃ cap, y = .slice (some ⟨(Γ.loc o).b, off * sz, none⟩) len cap ∧ len ≤ cap ∧ (c = true → cap = len) ∧ off + cap ≤ (Γ.loc o).ct ∧ VRcells Γ w ((es.drop off).take len).flatten (fun j => w.cell? ⟨(Γ.loc o).b, off * sz + j, none⟩) := by
  have hO := s.obj o _ ho
  simp only [OR] at hO
  obtain ⟨k1, k2, k3, k4, k5, k6⟩ := hO
  simp only [VR] at h
  obtain ⟨A, cap, rfl, h1, h2, h3, h4, h5⟩ := h
  obtain ⟨h6, h7⟩ := h5 k1
  rcases h7 with h7 | h7
  · omega
  · obtain ⟨arr, et, k7, k8, k9⟩ := k6.resolve_left (by omega)
    refine ⟨cap, by rw [h7, k2], h1, h2, h6, ?_⟩
    have hd : VRcells Γ w (es.drop off).flatten (fun j => arr[j + off * sz]?) := by
      rw [flatten_drop off k5]
      exact k9.drop _ (by rw [flatten_length k5]; exact Nat.mul_le_mul_right _ (by omega))
    rw [flatten_take (sz := sz) len fun x hx => k5 x (List.mem_of_mem_drop hx)]
    refine (hd.take _).congr fun j => ?_
    simp only [World.cell?, k7]
    simp
    congr 1; omega

/-- What an append reads. -/
theorem src_ok {x : AV} {y : Value} {xs : List (List AV)} {sz : Nat} {tx : TypeId} (s : SR P Γ σ w) (hx : VR Γ w x y) (hc : content σ x = some xs) (hr : okRows sz xs = true) (hsz : 0 < sz)
    (ht : (∃ e', P.underlying tx = some (.slice e')) ∨ P.underlying tx = some .string) : ∃ news, Src P sz tx y xs.length news w ∧ VRs Γ w xs.flatten news := by
  have hlen := okRows_len hr
  have fromCells : ∀ (A : Option Addr) (n cap : Nat), y = .slice A n cap → n = xs.length → (xs ≠ [] → ∃ b off, A = some ⟨b, off, none⟩ ∧ VRcells Γ w xs.flatten (fun j => w.cell? ⟨b, off + j, none⟩)) →
      ∃ news, Src P sz tx y xs.length news w ∧ VRs Γ w xs.flatten news := by
    rintro A n cap rfl rfl hcells
    by_cases hne : xs = []
    · subst hne
      have hone : ∀ u ∈ ([] : List Value), u.oneCell' = true := fun _ h => by cases h
      refine ⟨[], ⟨ht, fun _ => rfl, ?_, ?_, by simp, hone⟩, by simp [VRs]⟩ <;>
      · cases A with
        | none => exact run_firstCells_none _ _ _ _ _
        | some A => exact run_firstCells_some _ sz 0 A _ _ [] (by simp) (by simp)
    · obtain ⟨b, off, rfl, hv⟩ := hcells hne
      obtain ⟨news, h1, h2⟩ := hv.list
      have hl := h1.length
      rw [flatten_length hlen] at hl
      have hone := plains_one h1 (okRows_plain hr)
      have hget : ∀ j u, news[j]? = some u → w.cell? ((⟨b, off, none⟩ : Addr).add j) = some u := fun j u hj => by rw [Addr.add_lit]; exact h2 j u hj
      exact ⟨news, ⟨ht, fun _ => rfl, run_firstCells_some w sz _ _ _ _ news hl hget, run_firstCells_some w.drew sz _ _ _ _ news hl (by simpa using hget), hl, hone⟩, h1⟩
  unfold content at hc
  split at hc
  · cases hc
    by_cases hne : xs = []
    · subst hne
      simp only [VR] at hx
      obtain ⟨A, cap, rfl, _⟩ := hx
      exact fromCells A _ cap rfl rfl (fun h => absurd rfl h)
    · obtain ⟨b, off, _, cap, h1, _, _, _, _, _, h2⟩ := fsl_cells hx hne
      exact fromCells _ _ cap h1 rfl fun _ => ⟨b, off, rfl, h2⟩
  · rename_i o g off len c
    split at hc
    · rename_i sz' es g' ho
      split at hc
      · rename_i hg
        obtain ⟨rfl, hle⟩ := hg
        cases hc
        have hn : ((es.drop off).take len).length = len := by simp; omega
        by_cases hpos : 0 < len
        · obtain ⟨cap, h1, _, _, _, h2⟩ := sl_cells s hx ho hle hpos
          exact fromCells _ _ cap h1 hn.symm fun _ => ⟨_, _, rfl, h2⟩
        · obtain rfl : len = 0 := by omega
          simp only [VR] at hx
          obtain ⟨A, cap, rfl, _⟩ := hx
          exact fromCells A _ cap rfl hn.symm fun h => absurd (by simp) h
      · cases hc
    · cases hc
  · rename_i str
    cases hc
    simp only [VR] at hx
    subst hx
    have hs1 : str.data.toList ≠ [] → sz = 1 := fun hne => by
      obtain ⟨b, l, hb⟩ := List.exists_cons_of_ne_nil hne
      have := hlen [.v (.int .u8 b.toNat)] (by rw [hb]; simp)
      simpa using this.symm
    have hsz' : (str.data.toList.map fun b => [AV.v (.int .u8 b.toNat)]).length = str.size := by rw [List.length_map, Array.length_toList]; rfl
    have hcells : ∀ W : World, (Builtin.firstCells sz str.size (.string str)).run P W = .ok (byteCells str).toArray W := fun W => firstCells_string (P := P) str W
    have hbl := byteCells_length str
    have hz1 : str.size * 1 = str.size * sz := by
      by_cases hne : str.data.toList = []
      · have h0 : str.size = 0 := by rw [← hsz', hne]; rfl
        rw [h0]; simp
      · rw [hs1 hne]
    rw [hsz']
    refine ⟨byteCells str, ⟨ht, fun _ => rfl, hcells w, hcells w.drew, by rw [hbl]; omega, ?_⟩, ?_⟩
    · intro u hu
      obtain ⟨_, _, rfl⟩ := List.mem_map.1 hu
      rfl
    · unfold byteCells
      generalize str.data.toList = l
      induction l with
      | nil => simp [VRs]
      | cons b l ih => simp only [List.map_cons, List.flatten_cons, List.cons_append, List.nil_append, VRs, VR]; exact ⟨_, _, rfl, rfl, ih⟩
  · cases hc

theorem size_zeroCells' (z : Array Value) (n : Nat) : (Builtin.zeroCells z n).size = n * z.size := by simp [Builtin.zeroCells]
theorem grownCap_ge (w : World) (need old : Nat) (e : TypeId) : need ≤ grownCap w need old e := by simp [grownCap, Question.cut]
theorem add_take_get {α : Type} {l : List α} {r : List α} {j : Nat} {v : α} (h : l[j]? = some v) : (l ++ r)[j]? = some v := by
  rw [List.getElem?_append_left (List.getElem?_eq_some_iff.1 h).1]; exact h

/-- The zero value of a type has as many cells as its size says (checked by 'comp'). -/
def ZOk (P : Program) (e : TypeId) : Prop := ∃ i z, P.info? e = some i ∧ i.zero = some z ∧ z.cells.size = i.size

theorem ok_append {t tx ty el : TypeId} {sz bytes : Nat} {base : Option Addr} {len cap : Nat} {y : Value} {n : Nat} {olds news : List Value}
    (ht : P.underlying t = some (.slice el)) (hz : ZOk P el) (hsz : szT P el = some sz) (hby : byT P el = some bytes)
    (hb0 : 0 < bytes) (hsrc : Src P sz tx y n news w) (hold : ∀ W : World, (∀ x, W.cell? x = w.cell? x) → (Builtin.firstCells sz len (.slice base len cap)).run P W = .ok olds.toArray W)
    (hlo : olds.length = len * sz) (hg : cap < len + n) (hfit : (len + n) * bytes ≤ 2 ^ 47) :
    ∃ c' rest, (Builtin.append_ #[t, tx] ty #[.slice base len cap, y]).run P w = .ok (.slice (some ⟨w.heap.size, 0, none⟩) (len + n) c') (w.drew.alloc (.cells ((olds ++ news) ++ rest).toArray el)) ∧
      len + n ≤ c' ∧ ((olds ++ news) ++ rest).length = c' * sz := by
  obtain ⟨i, z, hi, hzv, hzs⟩ := hz
  obtain ⟨i', hi', rfl⟩ := szT_ok hsz
  obtain ⟨i'', hi'', rfl⟩ := byT_ok hby
  rw [hi] at hi' hi''
  cases hi'; cases hi''
  have hle : (len + n) * 1 ≤ (len + n) * i.bytes := Nat.mul_le_mul_left _ hb0
  have hcap : Builtin.nextslicecap (len + n) cap * i.bytes ≤ 281474976710656 := by
    have h1 := nextslicecap_le hg
    have h2 := Nat.mul_le_mul_right i.bytes h1
    rw [Nat.mul_assoc] at h2
    omega
  have hr := run_append_grow_src (P := P) w t tx ty el i z ht hi hzv base len cap olds (hold w.drew fun _ => rfl) y n news hsrc hg (by omega) hcap
  refine ⟨grownCap w (len + n) cap el, (Builtin.zeroCells z.cells (grownCap w (len + n) cap el - (len + n))).toList, ?_, grownCap_ge _ _ _ _, ?_⟩
  · rw [hr]; congr 3
    apply Array.ext'
    simp
  · have h1 := grownCap_ge w (len + n) cap el
    rw [List.length_append, List.length_append, hlo, hsrc.newsLen]
    simp only [Array.length_toList, size_zeroCells', hzs]
    rw [← Nat.add_mul, ← Nat.add_mul]
    congr 1; omega

/-- The common end of the two ways that make a new row. -/
theorem append_new (s : SR P Γ σ w) {sz : Nat} {el : TypeId} {es : List (List AV)} {vs rest : List Value} {n c' : Nat} (hsz : 0 < sz) (hes : ∀ e ∈ es, e.length = sz) (hv : VRs Γ w es.flatten vs) (hn : es.length = n) (hc : n ≤ c')
    (hl : (vs ++ rest).length = c' * sz) :
    SR P (Γ.push ⟨0, w.heap.size, sz, c'⟩) (σ ++ [.row sz es 0]) (w.drew.alloc (.cells (vs ++ rest).toArray el)) ∧ Ext Γ (Γ.push ⟨0, w.heap.size, sz, c'⟩) w (w.drew.alloc (.cells (vs ++ rest).toArray el)) := by
  have hB : Below w.heap.size w (w.drew.alloc (.cells (vs ++ rest).toArray el)) := (below_drew w).trans (below_alloc w.drew _)
  exact row_push (P := P) s hB (Nat.le_refl _) (b := w.heap.size) (et := el) (arr := (vs ++ rest).toArray) (alloc_new w.drew _) sz c' es hsz (by omega) hes (by simpa using hl) hv (fun j v hj => by simpa using add_take_get hj)

theorem ok_app {t tx ty el : TypeId} {sz bytes o g len : Nat} {c : Bool} {p y : Value} {x : AV} {xs es : List (List AV)} (s : SR P Γ σ w) (hp : VR Γ w (.sl o g 0 len c) p) (hx : VR Γ w x y)
    (ht : P.underlying t = some (.slice el)) (htx : (∃ e', P.underlying tx = some (.slice e')) ∨ P.underlying tx = some .string) (hz : ZOk P el) (hsz : szT P el = some sz) (hby : byT P el = some bytes) (hs0 : 0 < sz) (hb0 : 0 < bytes)
    (hc : content σ x = some xs) (hr : okRows sz xs = true) (ho : σ[o]? = some (.row sz es g)) (hlen : len ≤ es.length) (hfit : (len + xs.length) * bytes ≤ 2 ^ 47) :
    OpOk P Γ w (((Builtin.append_ #[t, tx] ty #[p, y]).run P w).andThen fun v w => .ok (.value v) w) (if xs = [] then .sl o g 0 len c else .sl o (g + 1) 0 (len + xs.length) false)
      (if xs = [] then σ else σ.set o (.row sz (es.take len ++ xs) (g + 1))) := by
  obtain ⟨news, hsrc, hnews⟩ := src_ok (tx := tx) s hx hc hr hs0 htx
  have hn : o < Γ.n := by rw [← s.len]; exact (List.getElem?_eq_some_iff.1 ho).1
  have hO := s.obj o _ ho
  have hO' := hO
  simp only [OR] at hO
  obtain ⟨k1, k2, k3, k4, k5, k6⟩ := hO
  have hp' := hp
  simp only [VR] at hp
  obtain ⟨A, cap, rfl, h1, h2, h3, h4, h5⟩ := hp
  obtain ⟨h6, h7⟩ := h5 k1
  have hnl := hsrc.newsLen
  obtain ⟨inf, zv0, hinf, hzz⟩ := hz
  obtain ⟨inf', hinf', hszz⟩ := szT_ok hsz
  rw [hinf] at hinf'; cases hinf'
  have hes' : ∀ e ∈ es.take len ++ xs, e.length = sz := fun e he => by
    rcases List.mem_append.1 he with he | he
    · exact k5 e (List.mem_of_mem_take he)
    · exact okRows_len hr e he
  by_cases hroom : len + xs.length ≤ cap
  · -- there is room
    by_cases hct : (Γ.loc o).ct = 0
    · have hc0 : cap = 0 := by omega
      have hx0 : xs = [] := List.length_eq_zero_iff.1 (by omega)
      have hl0 : len = 0 := by omega
      subst hx0 hl0 hc0
      simp only [List.length_nil, Nat.zero_mul] at hnl
      have hn0 : news = [] := List.length_eq_zero_iff.1 hnl
      subst hn0
      simp only [if_pos]
      have hq1 : ∀ w' : World, (Builtin.lenOf y).run P w' = .ok 0 w' := hsrc.len
      have hq2 : (Builtin.firstCells sz 0 y).run P w = .ok #[] w := hsrc.cells
      refine .here s (v := .slice A 0 0) ?_ hp'
      rcases htx with ⟨e', hk⟩ | hk <;> cases A <;> simp [Builtin.append_, run_underlying ht, run_underlying hk, sizeOf, typeInfo, hinf, hq1, hq2, hszz, storeCells]
    · obtain ⟨arr, et, k7, k8, k9⟩ := k6.resolve_left hct
      have hrun : ∀ a', A = some a' → a' = ⟨(Γ.loc o).b, 0, none⟩ → (Builtin.append_ #[t, tx] ty #[.slice A len cap, y]).run P w =
          .ok (.slice A (len + xs.length) cap) (w.setRow (Γ.loc o).b (arr.toList.take (len * sz) ++ news ++ arr.toList.drop (len * sz + news.length)).toArray) := by
        rintro a' rfl rfl
        have hst := run_storeCells_at P (Γ.loc o).b (len * sz) et news 0 arr w k7 (by
          rw [k8, hnl, Nat.add_zero, ← Nat.add_mul]; exact Nat.mul_le_mul_right _ (by omega)) hsrc.one
        simp only [Nat.add_zero] at hst
        rcases htx with ⟨e', hk⟩ | hk <;> simp [Builtin.append_, run_underlying ht, run_underlying hk, sizeOf, typeInfo, hinf, hszz, hsrc.len, hroom, hsrc.cells, Addr.add_lit, hst]
      by_cases hx0 : xs = []
      · subst hx0
        simp only [List.length_nil, Nat.zero_mul] at hnl
        have hn0 : news = [] := List.length_eq_zero_iff.1 hnl
        subst hn0
        simp only [if_pos]
        have hq1 : ∀ w' : World, (Builtin.lenOf y).run P w' = .ok 0 w' := hsrc.len
        have hq2 : (Builtin.firstCells sz 0 y).run P w = .ok #[] w := hsrc.cells
        refine .here s (v := .slice A len cap) ?_ hp'
        cases A with
        | none => rcases htx with ⟨e', hk⟩ | hk <;> simp [Builtin.append_, run_underlying ht, run_underlying hk, sizeOf, typeInfo, hinf, hszz, hq1, hq2, h1]
        | some A' =>
          rcases htx with ⟨e', hk⟩ | hk <;> simp [Builtin.append_, run_underlying ht, run_underlying hk, sizeOf, typeInfo, hinf, hszz, hq1, hq2, h1, storeCells]
      · rw [if_neg hx0, if_neg hx0]
        have hxp : 0 < xs.length := List.length_pos_iff.2 hx0
        have hA : A = some ⟨(Γ.loc o).b, 0, none⟩ := by
          rcases h7 with h7 | h7
          · omega
          · rw [h7]; simp
        have hflat : VRcells Γ w (es.take len ++ xs).flatten (fun j => (arr.toList.take (len * sz) ++ news ++ arr.toList.drop (len * sz + news.length)).toArray[j]?) := by
          rw [List.flatten_append, flatten_take len k5]
          obtain ⟨us, u1, u2⟩ := (k9.take (len * sz)).list
          have hul : us.length = len * sz := by
            rw [u1.length, List.length_take, flatten_length k5]
            exact Nat.min_eq_left (Nat.mul_le_mul_right _ hlen)
          have harrl : (arr.toList.take (len * sz)).length = len * sz := by
            rw [List.length_take, Array.length_toList, k8]
            exact Nat.min_eq_left (Nat.mul_le_mul_right _ (by omega))
          refine VRcells.of_list (u1.append hnews) fun j v hj => ?_
          simp only [List.getElem?_toArray]
          rw [List.append_assoc, List.getElem?_append, harrl]
          rw [List.getElem?_append, hul] at hj
          split
          · rw [if_pos (by assumption)] at hj
            rw [List.getElem?_take, if_pos (by assumption)]
            simpa using u2 j v hj
          · rw [if_neg (by assumption)] at hj
            exact add_take_get hj
        have hw := row_write s ho k7 hct (g + 1) (.inr (Nat.lt_succ_self _)) (es.take len ++ xs) (by simp; omega)
          (arr' := (arr.toList.take (len * sz) ++ news ++ arr.toList.drop (len * sz + news.length)).toArray) hes'
          (by
            have : len * sz + news.length ≤ arr.size := by rw [hnl, k8, ← Nat.add_mul]; exact Nat.mul_le_mul_right _ (by omega)
            rw [← k8]; simp; omega) hflat
        refine ⟨_, _, _, _, by rw [hrun _ hA rfl]; rfl, .inl rfl, ?_, hw.1, hw.2⟩
        simp only [VR, Ctx.upd_same]
        exact ⟨A, cap, rfl, hroom, by simp, hn, Nat.le_refl _, fun _ => ⟨by omega, .inr (by rw [hA]; simp)⟩⟩
  · -- there is none
    have hx0 : xs ≠ [] := fun h => by subst h; simp at hroom; omega
    rw [if_neg hx0, if_neg hx0]
    have hold : ∃ olds, VRs Γ w (es.take len).flatten olds ∧ olds.length = len * sz ∧ ∀ W : World, (∀ x, W.cell? x = w.cell? x) → (Builtin.firstCells sz len (.slice A len cap)).run P W = .ok olds.toArray W := by
      by_cases hpos : 0 < len
      · obtain ⟨cap', e1, _, _, _, e2⟩ := sl_cells s hp' ho (by omega) hpos
        simp only [Value.slice.injEq] at e1
        obtain ⟨rfl, _, rfl⟩ := e1
        simp only [List.drop_zero] at e2
        obtain ⟨olds, e3, e4⟩ := e2.list
        have hol : olds.length = len * sz := by
          rw [e3.length, flatten_length fun x hx => k5 x (List.mem_of_mem_take hx), List.length_take, Nat.min_eq_left hlen]
        exact ⟨olds, e3, hol, fun W hW => run_firstCells_some W sz len _ _ _ olds hol fun j v hj => by rw [hW, Addr.add_lit]; exact e4 j v hj⟩
      · obtain rfl : len = 0 := by omega
        refine ⟨[], by simp [VRs], by simp, fun W _ => ?_⟩
        cases A with
        | none => exact run_firstCells_none _ _ _ _ _
        | some A => exact run_firstCells_some _ sz 0 A _ _ [] (by simp) (by simp)
    obtain ⟨olds, o1, o2, o3⟩ := hold
    obtain ⟨c', rest, r1, r2, r3⟩ := ok_append (ty := ty) ht ⟨inf, zv0, hinf, hzz⟩ hsz hby hb0 hsrc o3 o2 (by omega) hfit
    -- the object moves to the new row
    have hB : Below w.heap.size w (w.drew.alloc (.cells ((olds ++ news) ++ rest).toArray el)) := (below_drew w).trans (below_alloc w.drew _)
    have hsize : w.heap.size < (w.drew.alloc (.cells ((olds ++ news) ++ rest).toArray el)).heap.size := by simp
    have hs1 : ∀ b, b < w.heap.size → (b = (Γ.loc o).b ∧ (Γ.loc o).ct ≠ 0) ∨ (w.drew.alloc (.cells ((olds ++ news) ++ rest).toArray el)).heap[b]? = w.heap[b]? := fun b hb => .inr (hB.block b hb)
    have hl : c' ≠ 0 → (w.heap.size = (Γ.loc o).b ∧ (Γ.loc o).ct ≠ 0 ∨ w.heap.size ≤ w.heap.size) ∧ w.heap.size < (w.drew.alloc (.cells ((olds ++ news) ++ rest).toArray el)).heap.size := fun _ => ⟨.inr (Nat.le_refl _), hsize⟩
    have hgg : (⟨g + 1, w.heap.size, sz, c'⟩ : Loc) = Γ.loc o ∨ (Γ.loc o).g < g + 1 := .inr (by omega)
    have ee := Ext.upd (l := ⟨g + 1, w.heap.size, sz, c'⟩) s hn hgg hB.size hs1 hl rfl rfl rfl
    refine ⟨_, _, _, Γ.upd o ⟨g + 1, w.heap.size, sz, c'⟩, by rw [r1]; rfl, .inl rfl, ?_, SR.upd s hn hgg hB.size hs1 hl rfl rfl rfl ?_, ee⟩
    · simp only [VR, Ctx.upd_same]
      exact ⟨_, c', rfl, r2, by simp, hn, Nat.le_refl _, fun _ => ⟨by omega, .inr (by simp)⟩⟩
    · simp only [OR, Ctx.upd_same]
      refine ⟨trivial, trivial, hs0, by simp; omega, hes', .inr ⟨_, el, alloc_new w.drew _, by simpa using r3, ?_⟩⟩
      rw [List.flatten_append]
      exact VRcells.of_list (VRs.mono ee _ _ (o1.append hnews)) fun j v hj => by simpa using add_take_get (r := rest) hj

theorem ok_appN {t tx ty el : TypeId} {sz bytes : Nat} {p y : Value} {x : AV} {xs es : List (List AV)} (s : SR P Γ σ w) (hp : VR Γ w (.fsl es true) p) (hx : VR Γ w x y)
    (ht : P.underlying t = some (.slice el)) (htx : (∃ e', P.underlying tx = some (.slice e')) ∨ P.underlying tx = some .string) (hz : ZOk P el) (hsz : szT P el = some sz) (hby : byT P el = some bytes) (hs0 : 0 < sz) (hb0 : 0 < bytes)
    (hc : content σ x = some xs) (hr : okRows sz (es ++ xs) = true) (hfit : (es.length + xs.length) * bytes ≤ 2 ^ 47) :
    OpOk P Γ w (((Builtin.append_ #[t, tx] ty #[p, y]).run P w).andThen fun v w => .ok (.value v) w) (if xs = [] then .fsl es true else .sl σ.length 0 0 (es.length + xs.length) false)
      (if xs = [] then σ else σ ++ [.row sz (es ++ xs) 0]) := by
  obtain ⟨hr1, hr2⟩ := okRows_append hr
  obtain ⟨news, hsrc, hnews⟩ := src_ok (tx := tx) s hx hc hr2 hs0 htx
  have hnl := hsrc.newsLen
  have hp' := hp
  simp only [VR] at hp
  obtain ⟨A, cap, rfl, h1, h2, h3⟩ := hp
  obtain rfl := h2 trivial
  obtain ⟨inf, zv0, hinf, hzz⟩ := hz
  obtain ⟨inf', hinf', hszz⟩ := szT_ok hsz
  rw [hinf] at hinf'; cases hinf'
  by_cases hx0 : xs = []
  · subst hx0
    simp only [List.length_nil, Nat.zero_mul] at hnl
    have hn0 : news = [] := List.length_eq_zero_iff.1 hnl
    subst hn0
    simp only [if_pos]
    have hq1 : ∀ w' : World, (Builtin.lenOf y).run P w' = .ok 0 w' := hsrc.len
    have hq2 : (Builtin.firstCells sz 0 y).run P w = .ok #[] w := hsrc.cells
    refine .here s (v := .slice A es.length es.length) ?_ hp'
    cases A with
    | none => rcases htx with ⟨e', hk⟩ | hk <;> simp [Builtin.append_, run_underlying ht, run_underlying hk, sizeOf, typeInfo, hinf, hszz, hq1, hq2]
    | some A' => rcases htx with ⟨e', hk⟩ | hk <;> simp [Builtin.append_, run_underlying ht, run_underlying hk, sizeOf, typeInfo, hinf, hszz, hq1, hq2, storeCells]
  · rw [if_neg hx0, if_neg hx0]
    have hxp : 0 < xs.length := List.length_pos_iff.2 hx0
    have hel := okRows_len hr1
    have hold : ∃ olds, VRs Γ w es.flatten olds ∧ olds.length = es.length * sz ∧ ∀ W : World, (∀ x, W.cell? x = w.cell? x) → (Builtin.firstCells sz es.length (.slice A es.length es.length)).run P W = .ok olds.toArray W := by
      by_cases hne : es = []
      · subst hne
        refine ⟨[], by simp [VRs], by simp, fun W _ => ?_⟩
        cases A with
        | none => exact run_firstCells_none _ _ _ _ _
        | some A => exact run_firstCells_some _ sz 0 A _ _ [] (by simp) (by simp)
      · obtain ⟨b, off, _, cap, e1, _, _, _, _, _, e2⟩ := fsl_cells hp' hne
        simp only [Value.slice.injEq] at e1
        obtain ⟨rfl, _, rfl⟩ := e1
        obtain ⟨olds, e3, e4⟩ := e2.list
        have hol : olds.length = es.length * sz := by rw [e3.length, flatten_length hel]
        exact ⟨olds, e3, hol, fun W hW => run_firstCells_some W sz _ _ _ _ olds hol fun j v hj => by rw [hW, Addr.add_lit]; exact e4 j v hj⟩
    obtain ⟨olds, o1, o2, o3⟩ := hold
    obtain ⟨c', rest, r1, r2, r3⟩ := ok_append (ty := ty) ht ⟨inf, zv0, hinf, hzz⟩ hsz hby hb0 hsrc o3 o2 (by omega) hfit
    have hv : VRs Γ w (es ++ xs).flatten (olds ++ news) := by rw [List.flatten_append]; exact o1.append hnews
    obtain ⟨q1, q2⟩ := append_new (P := P) (el := el) (n := es.length + xs.length) s hs0 (okRows_len hr) hv (by simp) r2 r3
    refine ⟨_, _, _, _, by rw [r1]; rfl, .inl rfl, ?_, q1, q2⟩
    simp only [VR, s.len, Ctx.push_new]
    exact ⟨_, c', rfl, r2, by simp, by simp [Ctx.push], Nat.le_refl _, fun _ => ⟨by omega, .inr (by simp)⟩⟩
/-- An owned slice, given up. -/
theorem freeze_ok {o g off len sz : Nat} {c : Bool} {v : Value} {es : List (List AV)} (s : SR P Γ σ w) (h : VR Γ w (.sl o g off len c) v) (ho : σ[o]? = some (.row sz es g)) (hle : off + len ≤ es.length) :
    SR P (Γ.drop o) (σ.set o .dead) w ∧ VR (Γ.drop o) w (.fsl ((es.drop off).take len) false) v := by
  have hn : o < Γ.n := by rw [← s.len]; exact (List.getElem?_eq_some_iff.1 ho).1
  refine ⟨s.drop hn, ?_⟩
  have hlen : ((es.drop off).take len).length = len := by simp; omega
  by_cases hpos : 0 < len
  · obtain ⟨cap, h1, h2, _, h3, h4⟩ := sl_cells s h ho hle hpos
    have hO := s.obj o _ ho
    simp only [OR] at hO
    have hct : (Γ.loc o).ct ≠ 0 := by omega
    have hlens : ∀ x ∈ (es.drop off).take len, x.length = sz := fun x hx => hO.2.2.2.2.1 x (List.mem_of_mem_drop (List.mem_of_mem_take hx))
    have hown := s.blk o hn hct
    simp only [VR]
    refine ⟨_, cap, by rw [hlen]; exact h1, by omega, fun h => (by cases h), .inr ⟨_, _, sz, rfl, ⟨s.ownlt _ hown, fun h => h.2 hct rfl, s.sep _ hown⟩, hO.2.2.1, hlens, ?_⟩⟩
    exact (VRrows_iff hlens).2 (VRcells.mono (Ext.drop Γ w o) _ _ _ (fun _ => rfl) h4)
  · obtain rfl : len = 0 := by omega
    simp only [VR] at h ⊢
    obtain ⟨A, cap, rfl, h1, _⟩ := h
    exact ⟨A, cap, by simp, by simp, fun h => (by cases h), .inl (by simp)⟩
theorem OpOk.freeze {res : Result Next} {len sz : Nat} {c : Bool} {es : List (List AV)} (hl : len = es.length) (h : OpOk P Γ w res (.sl σ.length 0 0 len c) (σ ++ [.row sz es 0])) : OpOk P Γ w res (.fsl es false) (σ ++ [.dead]) := by
  obtain ⟨nx, v, w', Γ', h1, h2, h3, h4, h5⟩ := h
  obtain ⟨q1, q2⟩ := freeze_ok (es := es) (sz := sz) h4 h3 (by simp) (by omega)
  refine ⟨nx, v, w', _, h1, h2, ?_, ?_, h5.trans (Ext.drop Γ' w' σ.length)⟩
  · rw [hl] at q2; simpa using q2
  · simpa using q1
/-- An empty slice without room, taken for an owned one. -/
theorem empty_push {v : Value} {sz : Nat} (s : SR P Γ σ w) (h0 : 0 < sz) (hv : VR Γ w (.fsl [] true) v) :
    SR P (Γ.push ⟨0, 0, sz, 0⟩) (σ ++ [.row sz [] 0]) w ∧ Ext Γ (Γ.push ⟨0, 0, sz, 0⟩) w w ∧ VR (Γ.push ⟨0, 0, sz, 0⟩) w (.sl σ.length 0 0 0 false) v := by
  have hx := Ext.push (Γ := Γ) (Below.refl w.heap.size w) ⟨0, 0, sz, 0⟩ fun h => absurd rfl h
  refine ⟨s.push (Below.refl w.heap.size w) ⟨0, 0, sz, 0⟩ (fun h => absurd rfl h) (by
    simp only [OR, Ctx.push_new]
    exact ⟨trivial, trivial, h0, Nat.le_refl _, by simp, .inl trivial⟩), hx, ?_⟩
  simp only [VR] at hv ⊢
  rw [s.len, Ctx.push_new]
  obtain ⟨A, cap, rfl, h1, h2, _⟩ := hv
  have := h2 trivial
  simp at this
  subst this
  exact ⟨A, 0, rfl, Nat.le_refl _, fun _ => rfl, by simp [Ctx.push], Nat.le_refl _, fun _ => ⟨Nat.le_refl _, .inl rfl⟩⟩
theorem OpOk.own_empty {res : Result Next} {sz : Nat} (h0 : 0 < sz) (h : OpOk P Γ w res (.fsl [] true) σ) : OpOk P Γ w res (.sl σ.length 0 0 0 false) (σ ++ [.row sz [] 0]) := by
  obtain ⟨nx, v, w', Γ', h1, h2, h3, h4, h5⟩ := h
  obtain ⟨q1, q2, q3⟩ := empty_push h4 h0 h3
  exact ⟨nx, v, w', _, h1, h2, q3, q1, h5.trans q2⟩
theorem OpOk.give {res : Result Next} {r r' : AV} {σ1 σ2 : Store} (h : OpOk P Γ w res r σ1) (hg : giveE r σ1 = some (r', σ2)) : OpOk P Γ w res r' σ2 := by
  obtain ⟨nx, v, w', Γ', h1, h2, h3, h4, h5⟩ := h
  unfold giveE at hg
  split at hg
  · split at hg
    · rename_i ho
      split at hg
      · rename_i hc
        obtain ⟨rfl, hle⟩ := hc
        cases hg
        obtain ⟨q1, q2⟩ := freeze_ok h4 h3 ho hle
        exact ⟨nx, v, w', _, h1, h2, q2, q1, h5.trans (Ext.drop Γ' w' _)⟩
      · cases hg
    · cases hg
  · cases hg
    exact ⟨nx, v, w', _, h1, h2, h3, h4, h5⟩
end Go.Ev
