/- For every input the statement of this claim returns true: texts of its proof, joined (part 2). -/
import Derived.Laws.StructEq
import Derived.ChangeKeysEq
import Derived.Test.YtbhhifdhlafklaaEWT0
set_option linter.unusedSectionVars false
set_option linter.unusedSimpArgs false
set_option linter.unusedVariables false
namespace Go.Ev
open Go.RowKit (Below)
variable {P : Program} {Γ Γ' : Ctx} {w w' : World} {σ σ' : qr} {e : Env} {a : Act} {av : AV}
theorem qeo {sz : Nat} : ∀ {xs : List (List AV)}, qcd sz xs = true → ∀ x ∈ xs, x.length = sz
  | [], _, x, h => by cases h
  | y :: ys, h, x, hx => by
    simp only [qcd, Bool.and_eq_true, decide_eq_true_eq] at h
    rcases List.mem_cons.1 hx with rfl | hx
    · exact h.1
    · exact qeo h.2.2 x hx
theorem qng {sz : Nat} : ∀ {xs : List (List AV)}, qcd sz xs = true → qo xs.flatten = true
  | [], _ => rfl
  | y :: ys, h => by
    simp only [qcd, Bool.and_eq_true, decide_eq_true_eq] at h
    have h2 := qng h.2.2
    rw [List.flatten_cons]
    have : ∀ (l m : List AV), qo l = true → qo m = true → qo (l ++ m) = true := by
      intro l m
      induction l with
      | nil => intro _ h; exact h
      | cons b l ih => intro h1 h2; simp only [List.cons_append, qo, Bool.and_eq_true] at h1 ⊢; exact ⟨h1.1, ih h1.2 h2⟩
    exact this _ _ h.2.1 h2
theorem qo5 {sz : Nat} : ∀ {xs ys : List (List AV)}, qcd sz (xs ++ ys) = true → qcd sz xs = true ∧ qcd sz ys = true
  | [], ys, h => ⟨rfl, h⟩
  | x :: xs, ys, h => by
    simp only [List.cons_append, qcd, Bool.and_eq_true] at h ⊢
    have := qo5 h.2.2
    exact ⟨⟨h.1, h.2.1, this.1⟩, this.2⟩
theorem qk7 {es : List (List AV)} {c : Bool} {y : Value} (h : VR Γ w (.fsl es c) y) (hne : es ≠ []) :
    ∃ b off sz cap, y = .slice (some ⟨b, off, none⟩) es.length cap ∧ es.length ≤ cap ∧ (c = true → cap = es.length) ∧ Γ.okB w b ∧ 0 < sz ∧ (∀ e ∈ es, e.length = sz) ∧ qab Γ w es.flatten (fun j => w.cell? ⟨b, off + j, none⟩) := by
  simp only [VR] at h
  obtain ⟨A, cap, rfl, h1, h2, h3⟩ := h
  rcases h3 with h3 | ⟨b, off, sz, rfl, h4, h5, h6, h7⟩
  · exact absurd h3 hne
  · exact ⟨b, off, sz, cap, rfl, h1, h2, h4, h5, h6, (qkd h6).1 h7⟩
theorem qqs {o g off len sz : Nat} {c : Bool} {y : Value} {es : List (List AV)} (s : SR P Γ σ w) (h : VR Γ w (.sl o g off len c) y) (ho : σ[o]? = some (.row sz es g)) (hlen : off + len ≤ es.length) (hpos : 0 < len) :
    ∃ cap, y = .slice (some ⟨(Γ.loc o).b, off * sz, none⟩) len cap ∧ len ≤ cap ∧ (c = true → cap = len) ∧ off + cap ≤ (Γ.loc o).ct ∧ qab Γ w ((es.drop off).take len).flatten (fun j => w.cell? ⟨(Γ.loc o).b, off * sz + j, none⟩) := by
  have hO := s.obj o _ ho
  simp only [OR] at hO
  obtain ⟨k1, k2, k3, k4, k5, k6⟩ := hO
  simp only [VR] at h
  obtain ⟨A, cap, rfl, h1, h2, h3, h4, h5⟩ := h
  obtain ⟨h6, h7⟩ := h5 k1
  rcases h7 with h7 | h7
  · omega
  · obtain ⟨arr, et, k7, k8, k9⟩ := k6.resolve_left (by omega)
    refine ⟨cap, by rw [h7, k2], h1, h2, h6, ?_⟩
    have hd : qab Γ w (es.drop off).flatten (fun j => arr[j + off * sz]?) := by
      rw [qkf off k5]
      exact k9.drop _ (by rw [qbs k5]; exact Nat.mul_le_mul_right _ (by omega))
    rw [qfv (sz := sz) len fun x hx => k5 x (List.mem_of_mem_drop hx)]
    refine (hd.take _).congr fun j => ?_
    simp only [World.cell?, k7]
    simp
    congr 1; omega
theorem src_ok {x : AV} {y : Value} {xs : List (List AV)} {sz : Nat} {tx : TypeId} (s : SR P Γ σ w) (hx : VR Γ w x y) (hc : qbq σ x = some xs) (hr : qcd sz xs = true) (hsz : 0 < sz)
    (ht : (∃ e', P.underlying tx = some (.slice e')) ∨ P.underlying tx = some .string) : ∃ news, Src P sz tx y xs.length news w ∧ VRs Γ w xs.flatten news := by
  have hlen := qeo hr
  have fromCells : ∀ (A : Option Addr) (n cap : Nat), y = .slice A n cap → n = xs.length → (xs ≠ [] → ∃ b off, A = some ⟨b, off, none⟩ ∧ qab Γ w xs.flatten (fun j => w.cell? ⟨b, off + j, none⟩)) →
      ∃ news, Src P sz tx y xs.length news w ∧ VRs Γ w xs.flatten news := by
    rintro A n cap rfl rfl hcells
    by_cases hne : xs = []
    · subst hne
      have hone : ∀ u ∈ ([] : List Value), u.oneCell' = true := fun _ h => by cases h
      refine ⟨[], ⟨ht, fun _ => rfl, ?_, ?_, by simp, hone⟩, by simp [VRs]⟩ <;>
      · cases A with
        | none => exact run_firstCells_none _ _ _ _ _
        | some A => exact run_firstCells_some _ sz 0 A _ _ [] (by simp) (by simp)
    · obtain ⟨b, off, rfl, hv⟩ := hcells hne
      obtain ⟨news, h1, h2⟩ := hv.list
      have hl := h1.length
      rw [qbs hlen] at hl
      have hone := qn9 h1 (qng hr)
      have hget : ∀ j u, news[j]? = some u → w.cell? ((⟨b, off, none⟩ : Addr).add j) = some u := fun j u hj => by rw [Addr.add_lit]; exact h2 j u hj
      exact ⟨news, ⟨ht, fun _ => rfl, run_firstCells_some w sz _ _ _ _ news hl hget, run_firstCells_some w.drew sz _ _ _ _ news hl (by simpa using hget), hl, hone⟩, h1⟩
  unfold qbq at hc
  split at hc
  · cases hc
    by_cases hne : xs = []
    · subst hne
      simp only [VR] at hx
      obtain ⟨A, cap, rfl, _⟩ := hx
      exact fromCells A _ cap rfl rfl (fun h => absurd rfl h)
    · obtain ⟨b, off, _, cap, h1, _, _, _, _, _, h2⟩ := qk7 hx hne
      exact fromCells _ _ cap h1 rfl fun _ => ⟨b, off, rfl, h2⟩
  · rename_i o g off len c
    split at hc
    · rename_i sz' es g' ho
      split at hc
      · rename_i hg
        obtain ⟨rfl, hle⟩ := hg
        cases hc
        have hn : ((es.drop off).take len).length = len := by simp; omega
        by_cases hpos : 0 < len
        · obtain ⟨cap, h1, _, _, _, h2⟩ := qqs s hx ho hle hpos
          exact fromCells _ _ cap h1 hn.symm fun _ => ⟨_, _, rfl, h2⟩
        · obtain rfl : len = 0 := by omega
          simp only [VR] at hx
          obtain ⟨A, cap, rfl, _⟩ := hx
          exact fromCells A _ cap rfl hn.symm fun h => absurd (by simp) h
      · cases hc
    · cases hc
  · rename_i str
    cases hc
    simp only [VR] at hx
    subst hx
    have hs1 : str.data.toList ≠ [] → sz = 1 := fun hne => by
      obtain ⟨b, l, hb⟩ := List.exists_cons_of_ne_nil hne
      have := hlen [.v (.int .u8 b.toNat)] (by rw [hb]; simp)
      simpa using this.symm
    have hsz' : (str.data.toList.map fun b => [AV.v (.int .u8 b.toNat)]).length = str.size := by rw [List.length_map, Array.length_toList]; rfl
    have hcells : ∀ W : World, (Builtin.firstCells sz str.size (.string str)).run P W = .ok (byteCells str).toArray W := fun W => firstCells_string (P := P) str W
    have hbl := byteCells_length str
    have hz1 : str.size * 1 = str.size * sz := by
      by_cases hne : str.data.toList = []
      · have h0 : str.size = 0 := by rw [← hsz', hne]; rfl
        rw [h0]; simp
      · rw [hs1 hne]
    rw [hsz']
    refine ⟨byteCells str, ⟨ht, fun _ => rfl, hcells w, hcells w.drew, by rw [hbl]; omega, ?_⟩, ?_⟩
    · intro u hu
      obtain ⟨_, _, rfl⟩ := List.mem_map.1 hu
      rfl
    · unfold byteCells
      generalize str.data.toList = l
      induction l with
      | nil => simp [VRs]
      | cons b l ih => simp only [List.map_cons, List.flatten_cons, List.cons_append, List.nil_append, VRs, VR]; exact ⟨_, _, rfl, rfl, ih⟩
  · cases hc
theorem qje (z : Array Value) (n : Nat) : (Builtin.zeroCells z n).size = n * z.size := by simp [Builtin.zeroCells]
theorem qot (w : World) (need old : Nat) (e : TypeId) : need ≤ grownCap w need old e := by simp [grownCap, Question.cut]
theorem qnd {α : Type} {l : List α} {r : List α} {j : Nat} {v : α} (h : l[j]? = some v) : (l ++ r)[j]? = some v := by
  rw [List.getElem?_append_left (List.getElem?_eq_some_iff.1 h).1]; exact h
def ZOk (P : Program) (e : TypeId) : Prop := ∃ i z, P.info? e = some i ∧ i.zero = some z ∧ z.cells.size = i.size
theorem q1c {t tx ty el : TypeId} {sz bytes : Nat} {base : Option Addr} {len cap : Nat} {y : Value} {n : Nat} {olds news : List Value}
    (ht : P.underlying t = some (.slice el)) (hz : ZOk P el) (hsz : szT P el = some sz) (hby : byT P el = some bytes)
    (hb0 : 0 < bytes) (hsrc : Src P sz tx y n news w) (hold : ∀ W : World, (∀ x, W.cell? x = w.cell? x) → (Builtin.firstCells sz len (.slice base len cap)).run P W = .ok olds.toArray W)
    (hlo : olds.length = len * sz) (hg : cap < len + n) (hfit : (len + n) * bytes ≤ 2 ^ 47) :
    ∃ c' rest, (Builtin.append_ #[t, tx] ty #[.slice base len cap, y]).run P w = .ok (.slice (some ⟨w.heap.size, 0, none⟩) (len + n) c') (w.drew.alloc (.cells ((olds ++ news) ++ rest).toArray el)) ∧
      len + n ≤ c' ∧ ((olds ++ news) ++ rest).length = c' * sz := by
  obtain ⟨i, z, hi, hzv, hzs⟩ := hz
  obtain ⟨i', hi', rfl⟩ := qke hsz
  obtain ⟨i'', hi'', rfl⟩ := q1t hby
  rw [hi] at hi' hi''
  cases hi'; cases hi''
  have hle : (len + n) * 1 ≤ (len + n) * i.bytes := Nat.mul_le_mul_left _ hb0
  have hcap : Builtin.nextslicecap (len + n) cap * i.bytes ≤ 281474976710656 := by
    have h1 := nextslicecap_le hg
    have h2 := Nat.mul_le_mul_right i.bytes h1
    rw [Nat.mul_assoc] at h2
    omega
  have hr := run_append_grow_src (P := P) w t tx ty el i z ht hi hzv base len cap olds (hold w.drew fun _ => rfl) y n news hsrc hg (by omega) hcap
  refine ⟨grownCap w (len + n) cap el, (Builtin.zeroCells z.cells (grownCap w (len + n) cap el - (len + n))).toList, ?_, qot _ _ _ _, ?_⟩
  · rw [hr]; congr 3
    apply Array.ext'
    simp
  · have h1 := qot w (len + n) cap el
    rw [List.length_append, List.length_append, hlo, hsrc.newsLen]
    simp only [Array.length_toList, qje, hzs]
    rw [← Nat.add_mul, ← Nat.add_mul]
    congr 1; omega
theorem qz3 (s : SR P Γ σ w) {sz : Nat} {el : TypeId} {es : List (List AV)} {vs rest : List Value} {n c' : Nat} (hsz : 0 < sz) (hes : ∀ e ∈ es, e.length = sz) (hv : VRs Γ w es.flatten vs) (hn : es.length = n) (hc : n ≤ c')
    (hl : (vs ++ rest).length = c' * sz) :
    SR P (Γ.push ⟨0, w.heap.size, sz, c'⟩) (σ ++ [.row sz es 0]) (w.drew.alloc (.cells (vs ++ rest).toArray el)) ∧ Ext Γ (Γ.push ⟨0, w.heap.size, sz, c'⟩) w (w.drew.alloc (.cells (vs ++ rest).toArray el)) := by
  have hB : Below w.heap.size w (w.drew.alloc (.cells (vs ++ rest).toArray el)) := (qqr w).trans (qdc w.drew _)
  exact qqv (P := P) s hB (Nat.le_refl _) (b := w.heap.size) (et := el) (arr := (vs ++ rest).toArray) (qib w.drew _) sz c' es hsz (by omega) hes (by simpa using hl) hv (fun j v hj => by simpa using qnd hj)
theorem ok_app {t tx ty el : TypeId} {sz bytes o g len : Nat} {c : Bool} {p y : Value} {x : AV} {xs es : List (List AV)} (s : SR P Γ σ w) (hp : VR Γ w (.sl o g 0 len c) p) (hx : VR Γ w x y)
    (ht : P.underlying t = some (.slice el)) (htx : (∃ e', P.underlying tx = some (.slice e')) ∨ P.underlying tx = some .string) (hz : ZOk P el) (hsz : szT P el = some sz) (hby : byT P el = some bytes) (hs0 : 0 < sz) (hb0 : 0 < bytes)
    (hc : qbq σ x = some xs) (hr : qcd sz xs = true) (ho : σ[o]? = some (.row sz es g)) (hlen : len ≤ es.length) (hfit : (len + xs.length) * bytes ≤ 2 ^ 47) :
    qoq P Γ w (((Builtin.append_ #[t, tx] ty #[p, y]).run P w).andThen fun v w => .ok (.value v) w) (if xs = [] then .sl o g 0 len c else .sl o (g + 1) 0 (len + xs.length) false)
      (if xs = [] then σ else σ.set o (.row sz (es.take len ++ xs) (g + 1))) := by
  obtain ⟨news, hsrc, hnews⟩ := src_ok (tx := tx) s hx hc hr hs0 htx
  have hn : o < Γ.n := by rw [← s.len]; exact (List.getElem?_eq_some_iff.1 ho).1
  have hO := s.obj o _ ho
  have hO' := hO
  simp only [OR] at hO
  obtain ⟨k1, k2, k3, k4, k5, k6⟩ := hO
  have hp' := hp
  simp only [VR] at hp
  obtain ⟨A, cap, rfl, h1, h2, h3, h4, h5⟩ := hp
  obtain ⟨h6, h7⟩ := h5 k1
  have hnl := hsrc.newsLen
  obtain ⟨inf, zv0, hinf, hzz⟩ := hz
  obtain ⟨inf', hinf', hszz⟩ := qke hsz
  rw [hinf] at hinf'; cases hinf'
  have hes' : ∀ e ∈ es.take len ++ xs, e.length = sz := fun e he => by
    rcases List.mem_append.1 he with he | he
    · exact k5 e (List.mem_of_mem_take he)
    · exact qeo hr e he
  by_cases hroom : len + xs.length ≤ cap
  · -- there is room
    by_cases hct : (Γ.loc o).ct = 0
    · have hc0 : cap = 0 := by omega
      have hx0 : xs = [] := List.length_eq_zero_iff.1 (by omega)
      have hl0 : len = 0 := by omega
      subst hx0 hl0 hc0
      simp only [List.length_nil, Nat.zero_mul] at hnl
      have hn0 : news = [] := List.length_eq_zero_iff.1 hnl
      subst hn0
      simp only [if_pos]
      have hq1 : ∀ w' : World, (Builtin.lenOf y).run P w' = .ok 0 w' := hsrc.len
      have hq2 : (Builtin.firstCells sz 0 y).run P w = .ok #[] w := hsrc.cells
      refine .here s (v := .slice A 0 0) ?_ hp'
      rcases htx with ⟨e', hk⟩ | hk <;> cases A <;> simp [Builtin.append_, run_underlying ht, run_underlying hk, sizeOf, typeInfo, hinf, hq1, hq2, hszz, storeCells]
    · obtain ⟨arr, et, k7, k8, k9⟩ := k6.resolve_left hct
      have hrun : ∀ a', A = some a' → a' = ⟨(Γ.loc o).b, 0, none⟩ → (Builtin.append_ #[t, tx] ty #[.slice A len cap, y]).run P w =
          .ok (.slice A (len + xs.length) cap) (w.setRow (Γ.loc o).b (arr.toList.take (len * sz) ++ news ++ arr.toList.drop (len * sz + news.length)).toArray) := by
        rintro a' rfl rfl
        have hst := run_storeCells_at P (Γ.loc o).b (len * sz) et news 0 arr w k7 (by
          rw [k8, hnl, Nat.add_zero, ← Nat.add_mul]; exact Nat.mul_le_mul_right _ (by omega)) hsrc.one
        simp only [Nat.add_zero] at hst
        rcases htx with ⟨e', hk⟩ | hk <;> simp [Builtin.append_, run_underlying ht, run_underlying hk, sizeOf, typeInfo, hinf, hszz, hsrc.len, hroom, hsrc.cells, Addr.add_lit, hst]
      by_cases hx0 : xs = []
      · subst hx0
        simp only [List.length_nil, Nat.zero_mul] at hnl
        have hn0 : news = [] := List.length_eq_zero_iff.1 hnl
        subst hn0
        simp only [if_pos]
        have hq1 : ∀ w' : World, (Builtin.lenOf y).run P w' = .ok 0 w' := hsrc.len
        have hq2 : (Builtin.firstCells sz 0 y).run P w = .ok #[] w := hsrc.cells
        refine .here s (v := .slice A len cap) ?_ hp'
        cases A with
        | none => rcases htx with ⟨e', hk⟩ | hk <;> simp [Builtin.append_, run_underlying ht, run_underlying hk, sizeOf, typeInfo, hinf, hszz, hq1, hq2, h1]
        | some A' =>
          rcases htx with ⟨e', hk⟩ | hk <;> simp [Builtin.append_, run_underlying ht, run_underlying hk, sizeOf, typeInfo, hinf, hszz, hq1, hq2, h1, storeCells]
      · rw [if_neg hx0, if_neg hx0]
        have hxp : 0 < xs.length := List.length_pos_iff.2 hx0
        have hA : A = some ⟨(Γ.loc o).b, 0, none⟩ := by
          rcases h7 with h7 | h7
          · omega
          · rw [h7]; simp
        have hflat : qab Γ w (es.take len ++ xs).flatten (fun j => (arr.toList.take (len * sz) ++ news ++ arr.toList.drop (len * sz + news.length)).toArray[j]?) := by
          rw [List.flatten_append, qfv len k5]
          obtain ⟨us, u1, u2⟩ := (k9.take (len * sz)).list
          have hul : us.length = len * sz := by
            rw [u1.length, List.length_take, qbs k5]
            exact Nat.min_eq_left (Nat.mul_le_mul_right _ hlen)
          have harrl : (arr.toList.take (len * sz)).length = len * sz := by
            rw [List.length_take, Array.length_toList, k8]
            exact Nat.min_eq_left (Nat.mul_le_mul_right _ (by omega))
          refine qab.of_list (u1.append hnews) fun j v hj => ?_
          simp only [List.getElem?_toArray]
          rw [List.append_assoc, List.getElem?_append, harrl]
          rw [List.getElem?_append, hul] at hj
          split
          · rw [if_pos (by assumption)] at hj
            rw [List.getElem?_take, if_pos (by assumption)]
            simpa using u2 j v hj
          · rw [if_neg (by assumption)] at hj
            exact qnd hj
        have hw := qtm s ho k7 hct (g + 1) (.inr (Nat.lt_succ_self _)) (es.take len ++ xs) (by simp; omega)
          (arr' := (arr.toList.take (len * sz) ++ news ++ arr.toList.drop (len * sz + news.length)).toArray) hes'
          (by
            have : len * sz + news.length ≤ arr.size := by rw [hnl, k8, ← Nat.add_mul]; exact Nat.mul_le_mul_right _ (by omega)
            rw [← k8]; simp; omega) hflat
        refine ⟨_, _, _, _, by rw [hrun _ hA rfl]; rfl, .inl rfl, ?_, hw.1, hw.2⟩
        simp only [VR, Ctx.upd_same]
        exact ⟨A, cap, rfl, hroom, by simp, hn, Nat.le_refl _, fun _ => ⟨by omega, .inr (by rw [hA]; simp)⟩⟩
  · -- there is none
    have hx0 : xs ≠ [] := fun h => by subst h; simp at hroom; omega
    rw [if_neg hx0, if_neg hx0]
    have hold : ∃ olds, VRs Γ w (es.take len).flatten olds ∧ olds.length = len * sz ∧ ∀ W : World, (∀ x, W.cell? x = w.cell? x) → (Builtin.firstCells sz len (.slice A len cap)).run P W = .ok olds.toArray W := by
      by_cases hpos : 0 < len
      · obtain ⟨cap', e1, _, _, _, e2⟩ := qqs s hp' ho (by omega) hpos
        simp only [Value.slice.injEq] at e1
        obtain ⟨rfl, _, rfl⟩ := e1
        simp only [List.drop_zero] at e2
        obtain ⟨olds, e3, e4⟩ := e2.list
        have hol : olds.length = len * sz := by
          rw [e3.length, qbs fun x hx => k5 x (List.mem_of_mem_take hx), List.length_take, Nat.min_eq_left hlen]
        exact ⟨olds, e3, hol, fun W hW => run_firstCells_some W sz len _ _ _ olds hol fun j v hj => by rw [hW, Addr.add_lit]; exact e4 j v hj⟩
      · obtain rfl : len = 0 := by omega
        refine ⟨[], by simp [VRs], by simp, fun W _ => ?_⟩
        cases A with
        | none => exact run_firstCells_none _ _ _ _ _
        | some A => exact run_firstCells_some _ sz 0 A _ _ [] (by simp) (by simp)
    obtain ⟨olds, o1, o2, o3⟩ := hold
    obtain ⟨c', rest, r1, r2, r3⟩ := q1c (ty := ty) ht ⟨inf, zv0, hinf, hzz⟩ hsz hby hb0 hsrc o3 o2 (by omega) hfit
    -- the object moves to the new row
    have hB : Below w.heap.size w (w.drew.alloc (.cells ((olds ++ news) ++ rest).toArray el)) := (qqr w).trans (qdc w.drew _)
    have hsize : w.heap.size < (w.drew.alloc (.cells ((olds ++ news) ++ rest).toArray el)).heap.size := by simp
    have hs1 : ∀ b, b < w.heap.size → (b = (Γ.loc o).b ∧ (Γ.loc o).ct ≠ 0) ∨ (w.drew.alloc (.cells ((olds ++ news) ++ rest).toArray el)).heap[b]? = w.heap[b]? := fun b hb => .inr (hB.block b hb)
    have hl : c' ≠ 0 → (w.heap.size = (Γ.loc o).b ∧ (Γ.loc o).ct ≠ 0 ∨ w.heap.size ≤ w.heap.size) ∧ w.heap.size < (w.drew.alloc (.cells ((olds ++ news) ++ rest).toArray el)).heap.size := fun _ => ⟨.inr (Nat.le_refl _), hsize⟩
    have hgg : (⟨g + 1, w.heap.size, sz, c'⟩ : Loc) = Γ.loc o ∨ (Γ.loc o).g < g + 1 := .inr (by omega)
    have ee := Ext.upd (l := ⟨g + 1, w.heap.size, sz, c'⟩) s hn hgg hB.size hs1 hl rfl rfl rfl
    refine ⟨_, _, _, Γ.upd o ⟨g + 1, w.heap.size, sz, c'⟩, by rw [r1]; rfl, .inl rfl, ?_, SR.upd s hn hgg hB.size hs1 hl rfl rfl rfl ?_, ee⟩
    · simp only [VR, Ctx.upd_same]
      exact ⟨_, c', rfl, r2, by simp, hn, Nat.le_refl _, fun _ => ⟨by omega, .inr (by simp)⟩⟩
    · simp only [OR, Ctx.upd_same]
      refine ⟨trivial, trivial, hs0, by simp; omega, hes', .inr ⟨_, el, qib w.drew _, by simpa using r3, ?_⟩⟩
      rw [List.flatten_append]
      exact qab.of_list (VRs.mono ee _ _ (o1.append hnews)) fun j v hj => by simpa using qnd (r := rest) hj
theorem q28 {t tx ty el : TypeId} {sz bytes : Nat} {p y : Value} {x : AV} {xs es : List (List AV)} (s : SR P Γ σ w) (hp : VR Γ w (.fsl es true) p) (hx : VR Γ w x y)
    (ht : P.underlying t = some (.slice el)) (htx : (∃ e', P.underlying tx = some (.slice e')) ∨ P.underlying tx = some .string) (hz : ZOk P el) (hsz : szT P el = some sz) (hby : byT P el = some bytes) (hs0 : 0 < sz) (hb0 : 0 < bytes)
    (hc : qbq σ x = some xs) (hr : qcd sz (es ++ xs) = true) (hfit : (es.length + xs.length) * bytes ≤ 2 ^ 47) :
    qoq P Γ w (((Builtin.append_ #[t, tx] ty #[p, y]).run P w).andThen fun v w => .ok (.value v) w) (if xs = [] then .fsl es true else .sl σ.length 0 0 (es.length + xs.length) false)
      (if xs = [] then σ else σ ++ [.row sz (es ++ xs) 0]) := by
  obtain ⟨hr1, hr2⟩ := qo5 hr
  obtain ⟨news, hsrc, hnews⟩ := src_ok (tx := tx) s hx hc hr2 hs0 htx
  have hnl := hsrc.newsLen
  have hp' := hp
  simp only [VR] at hp
  obtain ⟨A, cap, rfl, h1, h2, h3⟩ := hp
  obtain rfl := h2 trivial
  obtain ⟨inf, zv0, hinf, hzz⟩ := hz
  obtain ⟨inf', hinf', hszz⟩ := qke hsz
  rw [hinf] at hinf'; cases hinf'
  by_cases hx0 : xs = []
  · subst hx0
    simp only [List.length_nil, Nat.zero_mul] at hnl
    have hn0 : news = [] := List.length_eq_zero_iff.1 hnl
    subst hn0
    simp only [if_pos]
    have hq1 : ∀ w' : World, (Builtin.lenOf y).run P w' = .ok 0 w' := hsrc.len
    have hq2 : (Builtin.firstCells sz 0 y).run P w = .ok #[] w := hsrc.cells
    refine .here s (v := .slice A es.length es.length) ?_ hp'
    cases A with
    | none => rcases htx with ⟨e', hk⟩ | hk <;> simp [Builtin.append_, run_underlying ht, run_underlying hk, sizeOf, typeInfo, hinf, hszz, hq1, hq2]
    | some A' => rcases htx with ⟨e', hk⟩ | hk <;> simp [Builtin.append_, run_underlying ht, run_underlying hk, sizeOf, typeInfo, hinf, hszz, hq1, hq2, storeCells]
  · rw [if_neg hx0, if_neg hx0]
    have hxp : 0 < xs.length := List.length_pos_iff.2 hx0
    have hel := qeo hr1
    have hold : ∃ olds, VRs Γ w es.flatten olds ∧ olds.length = es.length * sz ∧ ∀ W : World, (∀ x, W.cell? x = w.cell? x) → (Builtin.firstCells sz es.length (.slice A es.length es.length)).run P W = .ok olds.toArray W := by
      by_cases hne : es = []
      · subst hne
        refine ⟨[], by simp [VRs], by simp, fun W _ => ?_⟩
        cases A with
        | none => exact run_firstCells_none _ _ _ _ _
        | some A => exact run_firstCells_some _ sz 0 A _ _ [] (by simp) (by simp)
      · obtain ⟨b, off, _, cap, e1, _, _, _, _, _, e2⟩ := qk7 hp' hne
        simp only [Value.slice.injEq] at e1
        obtain ⟨rfl, _, rfl⟩ := e1
        obtain ⟨olds, e3, e4⟩ := e2.list
        have hol : olds.length = es.length * sz := by rw [e3.length, qbs hel]
        exact ⟨olds, e3, hol, fun W hW => run_firstCells_some W sz _ _ _ _ olds hol fun j v hj => by rw [hW, Addr.add_lit]; exact e4 j v hj⟩
    obtain ⟨olds, o1, o2, o3⟩ := hold
    obtain ⟨c', rest, r1, r2, r3⟩ := q1c (ty := ty) ht ⟨inf, zv0, hinf, hzz⟩ hsz hby hb0 hsrc o3 o2 (by omega) hfit
    have hv : VRs Γ w (es ++ xs).flatten (olds ++ news) := by rw [List.flatten_append]; exact o1.append hnews
    obtain ⟨q1, q2⟩ := qz3 (P := P) (el := el) (n := es.length + xs.length) s hs0 (qeo hr) hv (by simp) r2 r3
    refine ⟨_, _, _, _, by rw [r1]; rfl, .inl rfl, ?_, q1, q2⟩
    simp only [VR, s.len, Ctx.push_new]
    exact ⟨_, c', rfl, r2, by simp, by simp [Ctx.push], Nat.le_refl _, fun _ => ⟨by omega, .inr (by simp)⟩⟩
theorem qoo {o g off len sz : Nat} {c : Bool} {v : Value} {es : List (List AV)} (s : SR P Γ σ w) (h : VR Γ w (.sl o g off len c) v) (ho : σ[o]? = some (.row sz es g)) (hle : off + len ≤ es.length) :
    SR P (Γ.drop o) (σ.set o .dead) w ∧ VR (Γ.drop o) w (.fsl ((es.drop off).take len) false) v := by
  have hn : o < Γ.n := by rw [← s.len]; exact (List.getElem?_eq_some_iff.1 ho).1
  refine ⟨s.drop hn, ?_⟩
  have hlen : ((es.drop off).take len).length = len := by simp; omega
  by_cases hpos : 0 < len
  · obtain ⟨cap, h1, h2, _, h3, h4⟩ := qqs s h ho hle hpos
    have hO := s.obj o _ ho
    simp only [OR] at hO
    have hct : (Γ.loc o).ct ≠ 0 := by omega
    have hlens : ∀ x ∈ (es.drop off).take len, x.length = sz := fun x hx => hO.2.2.2.2.1 x (List.mem_of_mem_drop (List.mem_of_mem_take hx))
    have hown := s.blk o hn hct
    simp only [VR]
    refine ⟨_, cap, by rw [hlen]; exact h1, by omega, fun h => (by cases h), .inr ⟨_, _, sz, rfl, ⟨s.ownlt _ hown, fun h => h.2 hct rfl, s.sep _ hown⟩, hO.2.2.1, hlens, ?_⟩⟩
    exact (qkd hlens).2 (qab.mono (Ext.drop Γ w o) _ _ _ (fun _ => rfl) h4)
  · obtain rfl : len = 0 := by omega
    simp only [VR] at h ⊢
    obtain ⟨A, cap, rfl, h1, _⟩ := h
    exact ⟨A, cap, by simp, by simp, fun h => (by cases h), .inl (by simp)⟩
theorem qoq.freeze {res : Result Next} {len sz : Nat} {c : Bool} {es : List (List AV)} (hl : len = es.length) (h : qoq P Γ w res (.sl σ.length 0 0 len c) (σ ++ [.row sz es 0])) : qoq P Γ w res (.fsl es false) (σ ++ [.dead]) := by
  obtain ⟨nx, v, w', Γ', h1, h2, h3, h4, h5⟩ := h
  obtain ⟨q1, q2⟩ := qoo (es := es) (sz := sz) h4 h3 (by simp) (by omega)
  refine ⟨nx, v, w', _, h1, h2, ?_, ?_, h5.trans (Ext.drop Γ' w' σ.length)⟩
  · rw [hl] at q2; simpa using q2
  · simpa using q1
theorem qob {v : Value} {sz : Nat} (s : SR P Γ σ w) (h0 : 0 < sz) (hv : VR Γ w (.fsl [] true) v) :
    SR P (Γ.push ⟨0, 0, sz, 0⟩) (σ ++ [.row sz [] 0]) w ∧ Ext Γ (Γ.push ⟨0, 0, sz, 0⟩) w w ∧ VR (Γ.push ⟨0, 0, sz, 0⟩) w (.sl σ.length 0 0 0 false) v := by
  have hx := Ext.push (Γ := Γ) (Below.refl w.heap.size w) ⟨0, 0, sz, 0⟩ fun h => absurd rfl h
  refine ⟨s.push (Below.refl w.heap.size w) ⟨0, 0, sz, 0⟩ (fun h => absurd rfl h) (by
    simp only [OR, Ctx.push_new]
    exact ⟨trivial, trivial, h0, Nat.le_refl _, by simp, .inl trivial⟩), hx, ?_⟩
  simp only [VR] at hv ⊢
  rw [s.len, Ctx.push_new]
  obtain ⟨A, cap, rfl, h1, h2, _⟩ := hv
  have := h2 trivial
  simp at this
  subst this
  exact ⟨A, 0, rfl, Nat.le_refl _, fun _ => rfl, by simp [Ctx.push], Nat.le_refl _, fun _ => ⟨Nat.le_refl _, .inl rfl⟩⟩
theorem qoq.own_empty {res : Result Next} {sz : Nat} (h0 : 0 < sz) (h : qoq P Γ w res (.fsl [] true) σ) : qoq P Γ w res (.sl σ.length 0 0 0 false) (σ ++ [.row sz [] 0]) := by
  obtain ⟨nx, v, w', Γ', h1, h2, h3, h4, h5⟩ := h
  obtain ⟨q1, q2, q3⟩ := qob h4 h0 h3
  exact ⟨nx, v, w', _, h1, h2, q3, q1, h5.trans q2⟩
theorem qoq.give {res : Result Next} {r r' : AV} {σ1 σ2 : qr} (h : qoq P Γ w res r σ1) (hg : qx3 r σ1 = some (r', σ2)) : qoq P Γ w res r' σ2 := by
  obtain ⟨nx, v, w', Γ', h1, h2, h3, h4, h5⟩ := h
  unfold qx3 at hg
  split at hg
  · split at hg
    · rename_i ho
      split at hg
      · rename_i hc
        obtain ⟨rfl, hle⟩ := hc
        cases hg
        obtain ⟨q1, q2⟩ := qoo h4 h3 ho hle
        exact ⟨nx, v, w', _, h1, h2, q2, q1, h5.trans (Ext.drop Γ' w' _)⟩
      · cases hg
    · cases hg
  · cases hg
    exact ⟨nx, v, w', _, h1, h2, h3, h4, h5⟩
end Go.Ev
namespace Go.Ev
open Go.RowKit (Below)
variable {P : Program} {Γ Γ' : Ctx} {w w' : World} {σ σ' : qr} {e : Env} {a : Act} {av : AV}
theorem qm7 (b off n : Nat) : (⟨b, off, none⟩ : Addr).add n = ⟨b, off + n, none⟩ := Addr.add_lit b off n
theorem q8s {e : Env} {d : Int} {x : Option Operand} {x' : Option Opnd} {n : Int} (hc : cOpt x = some x') (he : qf9 e d x' = some n) (hv : VE Γ w e a) :
    (x = none ∧ n = d) ∨ ∃ k, x.map a.eval = some (.int k n) := by
  cases x with
  | none => simp only [cOpt] at hc; cases hc; simp only [qf9] at he; cases he; exact .inl ⟨rfl, rfl⟩
  | some x =>
    simp only [cOpt] at hc
    obtain ⟨y, hy, hc⟩ := Option.bind_eq_some_iff.1 hc
    cases hc
    simp only [qf9] at he
    obtain ⟨v, hve, he⟩ := Option.bind_eq_some_iff.1 he
    split at he
    · cases he
      have := qa7 hy hve hv
      simp only [VR] at this
      exact .inr ⟨_, by rw [Option.map_some, this]⟩
    · cases he
theorem q8p {len cap : Nat} {lo hi mx : Option Value} {l h m : Int} (hl : (lo = none ∧ l = 0) ∨ ∃ k, lo = some (.int k l)) (hh : (hi = none ∧ h = len) ∨ ∃ k, hi = some (.int k h))
    (hm : (mx = none ∧ m = cap) ∨ ((∃ k, mx = some (.int k m)) ∧ hi ≠ none)) (h0 : 0 ≤ l) (h1 : l ≤ h) (h2 : h ≤ m) (h3 : m ≤ cap) :
    (Instr.sliceBounds true len cap lo hi mx).run P w = .ok (l.toNat, h.toNat, m.toNat) w := by
  have e1 : (h.toNat : Int) = h := Int.toNat_of_nonneg (by omega)
  have e2 : (m.toNat : Int) = m := Int.toNat_of_nonneg (by omega)
  have g1 : 0 ≤ h := by omega
  have g2 : 0 ≤ m := by omega
  have g3 : h ≤ cap := by omega
  rcases hl with ⟨rfl, rfl⟩ | ⟨kl, rfl⟩ <;> rcases hh with ⟨rfl, rfl⟩ | ⟨kh, rfl⟩ <;> rcases hm with ⟨rfl, rfl⟩ | ⟨⟨km, rfl⟩, hne⟩ <;>
    first
      | exact absurd rfl hne
      | simp [Instr.sliceBounds, run_sliceBound, *]
theorem qxr {t el : TypeId} {sz : Nat} {A : Option Addr} {len cap : Nat} {lo hi mx : Option Value} {l h m : Int} (ht : P.underlying t = some (.slice el)) (hsz : szT P el = some sz)
    (hl : (lo = none ∧ l = 0) ∨ ∃ k, lo = some (.int k l)) (hh : (hi = none ∧ h = len) ∨ ∃ k, hi = some (.int k h))
    (hm : (mx = none ∧ m = cap) ∨ ((∃ k, mx = some (.int k m)) ∧ hi ≠ none)) (h0 : 0 ≤ l) (h1 : l ≤ h) (h2 : h ≤ m) (h3 : m ≤ cap) :
    (Instr.sliceAt t (.slice A len cap) lo hi mx).run P w = .ok (.slice (if m.toNat = l.toNat then A else A.map (·.add (l.toNat * sz))) (h.toNat - l.toNat) (m.toNat - l.toNat)) w := by
  obtain ⟨i, hi', rfl⟩ := qke hsz
  simp [Instr.sliceAt, Instr.slice, run_underlying ht, q8p hl hh hm h0 h1 h2 h3, qg5 hi']
theorem q5u {t el : TypeId} {sz : Nat} {es : List (List AV)} {clip : Bool} {p : Value} {lo hi mx : Option Value} {l h m : Int} (cl : Bool) (hx : VR Γ w (.fsl es clip) p)
    (ht : P.underlying t = some (.slice el)) (hsz : szT P el = some sz) (hes : es = [] ∨ ∃ x, x ∈ es ∧ x.length = sz)
    (hl : (lo = none ∧ l = 0) ∨ ∃ k, lo = some (.int k l)) (hh : (hi = none ∧ h = es.length) ∨ ∃ k, hi = some (.int k h))
    (hm : (mx = none ∧ m = h) ∨ ((∃ k, mx = some (.int k m)) ∧ hi ≠ none)) (h0 : 0 ≤ l) (h1 : l ≤ h) (h2 : h ≤ m) (h3 : m ≤ es.length) (h4 : h ≤ es.length)
    (hcl : cl = true → (mx = none ∧ clip = true ∧ h = es.length) ∨ (mx ≠ none ∧ m = h)) :
    ∃ v, (Instr.sliceAt t p lo hi mx).run P w = .ok v w ∧ VR Γ w (.fsl ((es.drop l.toNat).take (h.toNat - l.toNat)) cl) v := by
  have hx' := hx
  simp only [VR] at hx
  obtain ⟨A, cap, rfl, c1, c2, c3⟩ := hx
  -- the model's own third bound
  obtain ⟨m', hm', hmb, hmc⟩ : ∃ m' : Int, ((mx = none ∧ m' = cap) ∨ ((∃ k, mx = some (.int k m')) ∧ hi ≠ none)) ∧ (h ≤ m' ∧ m' ≤ cap) ∧ (cl = true → m' = h) := by
    rcases hm with ⟨rfl, rfl⟩ | ⟨⟨k, rfl⟩, hne⟩
    · refine ⟨cap, .inl ⟨rfl, rfl⟩, ⟨by omega, by omega⟩, fun hc => ?_⟩
      rcases hcl hc with ⟨_, h5, h6⟩ | ⟨h5, _⟩
      · have := c2 h5
        omega
      · exact absurd rfl h5
    · refine ⟨m, .inr ⟨⟨k, rfl⟩, hne⟩, ⟨by omega, by omega⟩, fun hc => ?_⟩
      rcases hcl hc with ⟨h5, _⟩ | ⟨_, h5⟩
      · cases h5
      · exact h5
  refine ⟨_, qxr ht hsz hl hh hm' h0 h1 hmb.1 hmb.2, ?_⟩
  simp only [VR]
  have hlen : ((es.drop l.toNat).take (h.toNat - l.toNat)).length = h.toNat - l.toNat := by simp; omega
  refine ⟨_, _, by rw [hlen], by omega, fun hc => by rw [hlen, hmc hc], ?_⟩
  by_cases hlt : l = h
  · left
    apply List.length_eq_zero_iff.1
    omega
  · right
    have hne : es ≠ [] := fun hn => by subst hn; simp at h4; omega
    obtain ⟨b, off, sz', cap', e1, _, _, hok, hpos, hls, hcells⟩ := qk7 hx' hne
    simp only [Value.slice.injEq] at e1
    obtain ⟨rfl, _, rfl⟩ := e1
    have hszz : sz' = sz := by
      rcases hes with rfl | ⟨x, hx, hxl⟩
      · exact absurd rfl hne
      · rw [← hls x hx, hxl]
    subst hszz
    refine ⟨b, off + l.toNat * sz', sz', ?_, hok, hpos, fun x hx => hls x (List.mem_of_mem_drop (List.mem_of_mem_take hx)), ?_⟩
    · rw [if_neg (by omega)]
      simp [qm7]
    · rw [qkd fun x hx => hls x (List.mem_of_mem_drop (List.mem_of_mem_take hx)), qfv (sz := sz') _ fun x hx => hls x (List.mem_of_mem_drop hx), qkf _ hls]
      refine ((hcells.drop (l.toNat * sz') (by rw [qbs hls]; exact Nat.mul_le_mul_right _ (by omega))).take _).congr fun j => ?_
      congr 2; omega
theorem q78 {t el : TypeId} {sz o g off len : Nat} {clip : Bool} {p : Value} {lo hi mx : Option Value} {l h m : Int} (cl : Bool) (hx : VR Γ w (.sl o g off len clip) p)
    (ht : P.underlying t = some (.slice el)) (hsz : szT P el = some sz) (hloc : (Γ.loc o).g = g → (Γ.loc o).sz = sz)
    (hl : (lo = none ∧ l = 0) ∨ ∃ k, lo = some (.int k l)) (hh : (hi = none ∧ h = len) ∨ ∃ k, hi = some (.int k h))
    (hm : (mx = none ∧ m = h) ∨ ((∃ k, mx = some (.int k m)) ∧ hi ≠ none)) (h0 : 0 ≤ l) (h1 : l ≤ h) (h2 : h ≤ m) (h3 : m ≤ len) (h4 : h ≤ len)
    (hcl : cl = true → (mx = none ∧ clip = true ∧ h = len) ∨ (mx ≠ none ∧ m = h)) :
    ∃ v, (Instr.sliceAt t p lo hi mx).run P w = .ok v w ∧ VR Γ w (.sl o g (off + l.toNat) (h.toNat - l.toNat) cl) v := by
  simp only [VR] at hx
  obtain ⟨A, cap, rfl, c1, c2, c3, c4, c5⟩ := hx
  obtain ⟨m', hm', hmb, hmc⟩ : ∃ m' : Int, ((mx = none ∧ m' = cap) ∨ ((∃ k, mx = some (.int k m')) ∧ hi ≠ none)) ∧ (h ≤ m' ∧ m' ≤ cap) ∧ (cl = true → m' = h) := by
    rcases hm with ⟨rfl, rfl⟩ | ⟨⟨k, rfl⟩, hne⟩
    · refine ⟨cap, .inl ⟨rfl, rfl⟩, ⟨by omega, by omega⟩, fun hc => ?_⟩
      rcases hcl hc with ⟨_, h5, h6⟩ | ⟨h5, _⟩
      · have := c2 h5
        omega
      · exact absurd rfl h5
    · refine ⟨m, .inr ⟨⟨k, rfl⟩, hne⟩, ⟨by omega, by omega⟩, fun hc => ?_⟩
      rcases hcl hc with ⟨h5, _⟩ | ⟨_, h5⟩
      · cases h5
      · exact h5
  refine ⟨_, qxr ht hsz hl hh hm' h0 h1 hmb.1 hmb.2, ?_⟩
  simp only [VR]
  refine ⟨_, _, rfl, by omega, fun hc => by rw [hmc hc], c3, c4, fun hg => ?_⟩
  obtain ⟨d1, d2⟩ := c5 hg
  refine ⟨by omega, ?_⟩
  by_cases he : m'.toNat = l.toNat
  · exact .inl (by omega)
  · right
    rw [if_neg he]
    rcases d2 with d2 | d2
    · omega
    · rw [d2, hloc hg, Nat.add_mul]; simp [qm7]
theorem qvc {t el : TypeId} {sz : Nat} {es : List (List AV)} {clip : Bool} {p : Value} {k : IntKind} {n : Int} {c : List AV} (hx : VR Γ w (.fsl es clip) p) (ht : P.underlying t = some (.slice el)) (hsz : szT P el = some sz)
    (h0 : 0 ≤ n) (hi : es[n.toNat]? = some c) (hc : c.length = sz) : ∃ v, (Instr.indexAt t p (.int k n)).run P w = .ok v w ∧ VR Γ w (.fptr c) v := by
  have hlt := (List.getElem?_eq_some_iff.1 hi).1
  have hne : es ≠ [] := fun h => by subst h; simp at hi
  obtain ⟨b, off, sz', cap, rfl, _, _, hok, hpos, hls, hcells⟩ := qk7 hx hne
  have hszz : sz' = sz := by rw [← hls c (qo2 hi), hc]
  subst hszz
  obtain ⟨i, hinf, rfl⟩ := qke hsz
  refine ⟨.pointer (some ⟨b, off + n.toNat * i.size, none⟩), ?_, ?_⟩
  · have hb : 0 ≤ n ∧ n < es.length := ⟨h0, by omega⟩
    simp [Instr.indexAt, asIntOf, run_underlying ht, hb, qg5 hinf, qm7]
  · simp only [VR]
    refine ⟨b, _, rfl, hok, ?_⟩
    refine (qab.elem hls hcells hi).congr fun j => ?_
    congr 2; omega
theorem q27 {t el : TypeId} {sz o g off len : Nat} {es : List (List AV)} {clip : Bool} {p : Value} {k : IntKind} {n : Int} (s : SR P Γ σ w) (hx : VR Γ w (.sl o g off len clip) p) (ht : P.underlying t = some (.slice el)) (hsz : szT P el = some sz)
    (h0 : 0 ≤ n) (ho : σ[o]? = some (.row sz es g)) (hn : n.toNat < len) : ∃ v, (Instr.indexAt t p (.int k n)).run P w = .ok v w ∧ VR Γ w (.ptr o g (off + n.toNat) 0) v := by
  have hO := s.obj o _ ho
  simp only [OR] at hO
  obtain ⟨k1, k2, k3, k4, k5, -⟩ := hO
  simp only [VR] at hx
  obtain ⟨A, cap, rfl, c1, c2, c3, c4, c5⟩ := hx
  obtain ⟨d1, d2⟩ := c5 k1
  have hA := d2.resolve_left (by omega)
  obtain ⟨i, hinf, rfl⟩ := qke hsz
  subst hA
  refine ⟨.pointer (some ⟨(Γ.loc o).b, off * (Γ.loc o).sz + n.toNat * i.size, none⟩), ?_, ?_⟩
  · have hb : 0 ≤ n ∧ n < len := ⟨h0, by omega⟩
    simp [Instr.indexAt, asIntOf, run_underlying ht, hb, qg5 hinf, qm7]
  · simp only [VR]
    exact ⟨_, rfl, c3, c4, fun _ => by rw [k2, Nat.add_mul]; simp⟩
theorem q4c {t : TypeId} {fs : Array Field} {f : Nat} {fd : Field} {sz : Nat} {x r : AV} {p : Value} (hx : VR Γ w x p) (ht : P.underlying t = some (.struct fs)) (hf : fs[f]? = some fd) (hsz : szT P fd.type = some sz) (h0 : sz ≠ 0)
    (hr : (∃ cs, x = .fptr cs ∧ r = .fptr (cs.drop fd.offset)) ∨ (∃ o g i o', x = .ptr o g i o' ∧ r = .ptr o g i (o' + fd.offset))) :
    ∃ v, (Instr.fieldAt t p f).run P w = .ok v w ∧ VR Γ w r v := by
  obtain ⟨i, hinf, rfl⟩ := qke hsz
  have hplace : ∀ a : Addr, (fieldPlace a fd).run P w = .ok (a.add fd.offset) w := fun a => by
    simp [fieldPlace, qg5 hinf, h0]
  have hrun : ∀ a : Addr, (Instr.fieldAt t (.pointer (some a)) f).run P w = .ok (.pointer (some (a.add fd.offset))) w := fun a => by
    simp [Instr.fieldAt, run_underlying ht, hf, Instr.sureAddr, hplace]
  rcases hr with ⟨cs, rfl, rfl⟩ | ⟨o, g, j, o', rfl, rfl⟩
  · simp only [VR] at hx
    obtain ⟨b, off, rfl, hok, hcs⟩ := hx
    refine ⟨_, hrun _, ?_⟩
    simp only [VR]
    refine ⟨b, off + fd.offset, by rw [qm7], hok, ?_⟩
    by_cases hle : fd.offset ≤ cs.length
    · refine (hcs.drop _ hle).congr fun k => ?_
      congr 2; omega
    · rw [List.drop_eq_nil_of_le (by omega)]; simp [qab]
  · simp only [VR] at hx
    obtain ⟨q, rfl, h1, h2, h3⟩ := hx
    refine ⟨_, hrun _, ?_⟩
    simp only [VR]
    refine ⟨_, rfl, h1, h2, fun hg => ?_⟩
    rw [h3 hg, qm7, Nat.add_assoc]
theorem q1a {t el : TypeId} {n sz : Nat} {x r : AV} {p : Value} {k : IntKind} {i : Int} (hx : VR Γ w x p) (ht : P.underlying t = some (.array n el)) (hsz : szT P el = some sz) (h0 : 0 ≤ i) (hn : i.toNat < n)
    (hr : (∃ cs, x = .fptr cs ∧ r = .fptr (cs.drop (i.toNat * sz))) ∨ (∃ o g j o', x = .ptr o g j o' ∧ r = .ptr o g j (o' + i.toNat * sz))) :
    ∃ v, (Instr.indexAt t p (.int k i)).run P w = .ok v w ∧ VR Γ w r v := by
  obtain ⟨inf, hinf, rfl⟩ := qke hsz
  have hb : 0 ≤ i ∧ i < n := ⟨h0, by omega⟩
  have hrun : ∀ a : Addr, (Instr.indexAt t (.pointer (some a)) (.int k i)).run P w = .ok (.pointer (some (a.add (i.toNat * inf.size)))) w := fun a => by
    simp [Instr.indexAt, asIntOf, run_underlying ht, Instr.sureAddr, hb, qg5 hinf]
  rcases hr with ⟨cs, rfl, rfl⟩ | ⟨o, g, j, o', rfl, rfl⟩
  · simp only [VR] at hx
    obtain ⟨b, off, rfl, hok, hcs⟩ := hx
    refine ⟨_, hrun _, ?_⟩
    simp only [VR]
    refine ⟨b, off + i.toNat * inf.size, by rw [qm7], hok, ?_⟩
    by_cases hle : i.toNat * inf.size ≤ cs.length
    · refine (hcs.drop _ hle).congr fun k => ?_
      congr 2; omega
    · rw [List.drop_eq_nil_of_le (by omega)]; simp [qab]
  · simp only [VR] at hx
    obtain ⟨q, rfl, h1, h2, h3⟩ := hx
    refine ⟨_, hrun _, ?_⟩
    simp only [VR]
    refine ⟨_, rfl, h1, h2, fun hg => ?_⟩
    rw [h3 hg, qm7, Nat.add_assoc]
theorem q68 {t : TypeId} {sz off : Nat} {cs : List AV} {vs : List Value} {r : AV} (hcs : VRs Γ w cs vs) (hsz : szT P t = some sz) (hu : (P.underlying t).isSome = true) (h1 : qwb P t = true ∨ sz = 1)
    (hl : qv sz (qwb P t) (cs.drop off) = some r) : ∃ v, (part t vs.toArray off).run P w = .ok v w ∧ VR Γ w r v := by
  obtain ⟨i, hi, rfl⟩ := qke hsz
  unfold qv at hl
  split at hl
  · rename_i hag
    split at hl
    · cases hl
      refine ⟨_, by simp [part, qok hu, hag, qg5 hi]; rfl, ?_⟩
      simp only [VR]
      refine ⟨(vs.drop off).take i.size, ?_, (hcs.drop off).take _⟩
      congr 1
    · cases hl
  · rename_i hag
    have hag' : qwb P t = false := by simpa using hag
    rw [List.head?_drop] at hl
    obtain ⟨v, hv, hr⟩ := hcs.get hl
    exact ⟨v, by simp [part, qok hu, hag', hv], hr⟩
end Go.Ev
namespace Go.Ev
open Go.RowKit (Below)
variable {P : Program} {Γ Γ' : Ctx} {w w' : World} {σ σ' : qr} {e : Env} {a : Act} {av : AV}
theorem qqi (z : Array Value) (h : 0 < z.size) : ∀ c, (List.range (c * z.size)).map (fun j => z[j % z.size]!) = (List.replicate c z.toList).flatten
  | 0 => by simp
  | c + 1 => by
    rw [List.replicate_succ, List.flatten_cons, ← qqi z h c, Nat.add_mul, Nat.one_mul, Nat.add_comm, List.range_add, List.map_append, List.map_map]
    congr 1
    · apply List.ext_getElem?
      intro j
      simp only [List.getElem?_map]
      by_cases hj : j < z.size
      · rw [List.getElem?_range hj]
        simp [Nat.mod_eq_of_lt hj, hj]
      · rw [List.getElem?_eq_none (by simp; omega)]
        simp; omega
    · apply List.map_congr_left
      intro j _
      simp
theorem VRs.replicate {cs : List AV} {vs : List Value} (h : VRs Γ w cs vs) : ∀ c, VRs Γ w (List.replicate c cs).flatten (List.replicate c vs).flatten
  | 0 => by simp [VRs]
  | c + 1 => by simp only [List.replicate_succ, List.flatten_cons]; exact h.append (VRs.replicate h c)
theorem q4q {zs : List AV} (z : Value) (h : 0 < z.cells.size) (hz : VRs Γ w zs z.cells.toList) (c : Nat) : VRs Γ w (List.replicate c zs).flatten (madeCells z.cells (c * z.cells.size)).toList := by
  have : (madeCells z.cells (c * z.cells.size)).toList = (List.replicate c z.cells.toList).flatten := by
    rw [← qqi _ h]
    simp [madeCells]
  rw [this]
  exact hz.replicate c
theorem ok_mksl {t el : TypeId} {z : List AV} {bytes : Nat} {l c : Int} (s : SR P Γ σ w) (ht : P.underlying t = some (.slice el)) (hz : ZV P el z) (hby : byT P el = some bytes)
    (h0 : 0 ≤ l) (h1 : l ≤ c) (h2 : bytes * c ≤ 2 ^ 47) (h3 : c ≤ 2 ^ 62) (hne : z ≠ []) :
    qoq P Γ w (((Instr.makeSlice t (.int .i64 l) (.int .i64 c)).run P w).andThen fun v w => .ok (.value v) w) (.sl σ.length 0 0 l.toNat (decide (l = c))) (σ ++ [.row z.length (List.replicate c.toNat z) 0]) := by
  obtain ⟨i, zv, hi, hzv, hsz, hzl, hvr⟩ := hz
  obtain ⟨i', hi', rfl⟩ := q1t hby
  rw [hi] at hi'; cases hi'
  have hlen : 0 < zv.cells.size := by
    rcases Nat.eq_zero_or_pos zv.cells.size with h | h
    · exact absurd (List.eq_nil_of_length_eq_zero (hzl.trans h)) hne
    · exact h
  have hr := run_make (P := P) w t el i zv ht hi hzv .i64 .i64 l c h0 h1 (by omega) (by omega)
  rw [← hsz] at hr
  obtain ⟨q1, q2⟩ := qqv (P := P) s (qdc w (.cells (madeCells zv.cells (c.toNat * zv.cells.size)) el)) (Nat.le_refl _) (b := w.heap.size) (et := el) (arr := madeCells zv.cells (c.toNat * zv.cells.size)) (qib _ _) zv.cells.size c.toNat
    (List.replicate c.toNat z) hlen (by simp) (fun x hx => by rw [List.eq_of_mem_replicate hx]; exact hzl) (by rw [size_madeCells])
    (vs := (madeCells zv.cells (c.toNat * zv.cells.size)).toList) (q4q zv hlen (hvr _ _) _) (by simp)
  refine ⟨_, _, _, _, by rw [hr]; rfl, .inl rfl, ?_, by rw [hzl]; exact q1, q2⟩
  simp only [VR, s.len, Ctx.push_new]
  refine ⟨_, c.toNat, rfl, by omega, fun h => ?_, by simp [Ctx.push], Nat.le_refl _, fun _ => ⟨by omega, .inr (by simp)⟩⟩
  have := of_decide_eq_true h
  omega
theorem q4b {sz : Nat} (s : SR P Γ σ w) (h0 : 0 < sz) : ∀ n, ∃ Γ', SR P Γ' (σ ++ List.replicate n (.row sz [] 0)) w ∧ Ext Γ Γ' w w ∧ ∀ i, i < n → ∀ v, VR Γ w (.fsl [] true) v → VR Γ' w (.sl (σ.length + i) 0 0 0 false) v
  | 0 => ⟨Γ, by simpa using s, Ext.refl _ _, fun i hi => absurd hi (Nat.not_lt_zero _)⟩
  | n + 1 => by
    obtain ⟨Γ1, s1, e1, h1⟩ := q4b s h0 n
    have hn0 : ∀ (Γ : Ctx), VR Γ w (.fsl [] true) (.slice none 0 0) := fun Γ => by
      simp only [VR]; exact ⟨none, 0, rfl, Nat.le_refl _, fun _ => rfl, .inl trivial⟩
    obtain ⟨s2, e2, _⟩ := qob s1 h0 (hn0 Γ1)
    refine ⟨_, ?_, e1.trans e2, fun i hi v hv => ?_⟩
    · rw [List.replicate_succ', ← List.append_assoc]; exact s2
    · rcases Nat.lt_or_ge i n with hl | hg
      · exact VR.mono e2 _ _ (h1 i hl v hv)
      · have : i = n := by omega
        subst this
        have := (qob s1 h0 (VR.mono e1 _ _ hv)).2.2
        simpa using this
theorem qp5 {α β : Type} (f : α → β) : ∀ (l : List α), (l.map fun i => [f i]).flatten = l.map f
  | [] => rfl
  | x :: l => by simp [qp5 f l]
theorem ok_mkslO {t el : TypeId} {bytes sz : Nat} {c : Int} (s : SR P Γ σ w) (ht : P.underlying t = some (.slice el)) (hz : ZV P el [.fsl [] true]) (hby : byT P el = some bytes)
    (h0 : 0 ≤ c) (h2 : bytes * c ≤ 2 ^ 47) (h3 : c ≤ 2 ^ 62) (hs : 0 < sz) :
    qoq P Γ w (((Instr.makeSlice t (.int .i64 c) (.int .i64 c)).run P w).andThen fun v w => .ok (.value v) w) (.sl (σ.length + c.toNat) 0 0 c.toNat true)
      (σ ++ (List.replicate c.toNat (.row sz [] 0) ++ [.row 1 ((List.range c.toNat).map fun i => [.sl (σ.length + i) 0 0 0 false]) 0])) := by
  obtain ⟨i, zv, hi, hzv, hsz, hzl, hvr⟩ := hz
  obtain ⟨i', hi', rfl⟩ := q1t hby
  rw [hi] at hi'; cases hi'
  have hlen : zv.cells.size = 1 := by simpa using hzl.symm
  have hr := run_make (P := P) w t el i zv ht hi hzv .i64 .i64 c c h0 (Int.le_refl _) (by omega) (by omega)
  rw [← hsz, hlen, Nat.mul_one] at hr
  obtain ⟨Γ1, s1, e1, hown⟩ := q4b s hs c.toNat
  have hl1 : (σ ++ List.replicate c.toNat (SObj.row sz [] 0)).length = σ.length + c.toNat := by simp
  have hcells : ∃ u, zv.cells.toList = [u] ∧ VR Γ w (.fsl [] true) u := by
    have := hvr Γ w
    rw [show ([AV.fsl [] true] : List AV) = .fsl [] true :: [] from rfl] at this
    simp only [VRs] at this
    obtain ⟨u, us, h4, h5, h6⟩ := this
    subst h6
    exact ⟨u, h4, by simpa only [VR] using h5⟩
  obtain ⟨u, hu, hvu⟩ := hcells
  have hmade : (madeCells zv.cells c.toNat).toList = List.replicate c.toNat u := by
    have := qqi zv.cells (by omega) c.toNat
    rw [hlen, Nat.mul_one, hu] at this
    have h7 : (madeCells zv.cells c.toNat).toList = (List.replicate c.toNat [u]).flatten := by rw [← this]; simp [madeCells, hlen]
    rw [h7]; simp
  obtain ⟨q1, q2⟩ := qqv (P := P) s1 (qdc w (.cells (madeCells zv.cells c.toNat) el)) (Nat.le_refl _) (b := w.heap.size) (et := el) (arr := madeCells zv.cells c.toNat) (qib _ _) 1 c.toNat
    ((List.range c.toNat).map fun i => [AV.sl (σ.length + i) 0 0 0 false]) Nat.one_pos (by simp) (fun x hx => by
      obtain ⟨j, _, rfl⟩ := List.mem_map.1 hx; rfl) (by rw [size_madeCells, Nat.mul_one])
    (vs := List.replicate c.toNat u) (by
      rw [qp5]
      refine VRs.of_get (by simp) fun j a v ha hv => ?_
      have hj : j < c.toNat := by simpa using (List.getElem?_eq_some_iff.1 hv).1
      rw [List.getElem?_map, List.getElem?_range hj] at ha
      simp at ha; subst ha
      rw [List.getElem?_replicate, if_pos hj] at hv
      cases hv
      exact hown j hj u hvu) (by rw [← hmade]; simp)
  rw [List.append_assoc] at q1
  refine ⟨_, _, _, _, by rw [hr]; rfl, .inl rfl, ?_, q1, e1.trans q2⟩
  have hn1 : Γ1.n = σ.length + c.toNat := by rw [← s1.len, hl1]
  simp only [VR, ← hn1, Ctx.push_new]
  exact ⟨_, c.toNat, rfl, by omega, fun h => rfl, by simp [Ctx.push], Nat.le_refl _, fun _ => ⟨by omega, .inr (by simp)⟩⟩
theorem qpd {sz : Nat} {z : List AV} (h1 : z.length = sz) (h2 : qo z = true) : ∀ n, qcd sz (List.replicate n z) = true
  | 0 => rfl
  | n + 1 => by simp only [List.replicate_succ, qcd, qpd h1 h2 n, h1, h2, decide_true, Bool.and_self]
theorem qrl (z : Array Value) (h : 0 < z.size) (n : Nat) : (Builtin.zeroCells z n).toList = (List.replicate n z.toList).flatten := by
  rw [← qqi z h n]; simp [Builtin.zeroCells]
theorem ok_appM {t tn ty el : TypeId} {sz bytes : Nat} {kn kq : IntKind} {p : Value} {k : Int} {es : List (List AV)} {z : List AV} (s : SR P Γ σ w) (hp : VR Γ w (.fsl es true) p)
    (ht : P.underlying t = some (.slice el)) (htn : P.underlying tn = some (.int kn)) (hz : zT P el = some z) (hsz : szT P el = some sz) (hby : byT P el = some bytes) (hb0 : 0 < bytes) (hk : 0 < k) (hs0 : 0 < sz)
    (hr : qcd sz (es ++ List.replicate k.toNat z) = true) (hfit : (es.length + k.toNat) * bytes ≤ 2 ^ 47) :
    qoq P Γ w (((Builtin.append_ #[t, tn] ty #[p, .int kq k]).run P w).andThen fun v w => .ok (.value v) w) (.sl σ.length 0 0 (es.length + k.toNat) false) (σ ++ [.row sz (es ++ List.replicate k.toNat z) 0]) := by
  obtain ⟨inf, zv, hinf, hzv, hzs, rfl⟩ := q1e hz
  obtain ⟨inf', hinf', rfl⟩ := qke hsz
  rw [hinf] at hinf'; cases hinf'
  obtain ⟨inf', hinf', rfl⟩ := q1t hby
  rw [hinf] at hinf'; cases hinf'
  obtain ⟨m, rfl⟩ : ∃ m : Nat, k = m := ⟨k.toNat, by omega⟩
  simp only [Int.toNat_natCast] at *
  have hm : 0 < m := by omega
  have hp' := hp
  simp only [VR] at hp
  obtain ⟨A, cap, rfl, h1, h2, h3⟩ := hp
  obtain rfl := h2 trivial
  obtain ⟨hr1, hr2⟩ := qo5 hr
  have hel := qeo hr1
  have hold : ∃ olds, VRs Γ w es.flatten olds ∧ olds.length = es.length * inf.size ∧ ∀ W : World, (∀ x, W.cell? x = w.cell? x) → (Builtin.firstCells inf.size es.length (.slice A es.length es.length)).run P W = .ok olds.toArray W := by
    by_cases hne : es = []
    · subst hne
      refine ⟨[], by simp [VRs], by simp, fun W _ => ?_⟩
      cases A with
      | none => exact run_firstCells_none _ _ _ _ _
      | some A => exact run_firstCells_some _ inf.size 0 A _ _ [] (by simp) (by simp)
    · obtain ⟨b, off, _, cap, e1, _, _, _, _, _, e2⟩ := qk7 hp' hne
      simp only [Value.slice.injEq] at e1
      obtain ⟨rfl, _, rfl⟩ := e1
      obtain ⟨olds, e3, e4⟩ := e2.list
      have hol : olds.length = es.length * inf.size := by rw [e3.length, qbs hel]
      exact ⟨olds, e3, hol, fun W hW => run_firstCells_some W inf.size _ _ _ _ olds hol fun j v hj => by rw [hW, Addr.add_lit]; exact e4 j v hj⟩
  obtain ⟨olds, o1, o2, o3⟩ := hold
  have hle : (es.length + m) * 1 ≤ (es.length + m) * inf.bytes := Nat.mul_le_mul_left _ hb0
  have hcap : Builtin.nextslicecap (es.length + m) es.length * inf.bytes ≤ 281474976710656 := by
    have h1 := nextslicecap_le (show es.length < es.length + m by omega)
    have h2 := Nat.mul_le_mul_right inf.bytes h1
    rw [Nat.mul_assoc] at h2
    omega
  have hmle : m * inf.bytes ≤ (es.length + m) * inf.bytes := Nat.mul_le_mul_right _ (by omega)
  have hrun := Lib.run_append_grow_zeros (P := P) w t tn ty el inf zv kq kn ht htn hinf hzv A es.length es.length olds (o3 w.drew fun _ => rfl) m hm hs0 (by omega) (by omega) (by omega) hcap
  have hzl : 0 < zv.cells.size := by omega
  have hnews : VRs Γ w (List.replicate m (zv.cells.toList.map ofLeaf)).flatten (Builtin.zeroCells zv.cells m).toList := by
    rw [qrl _ hzl]; exact (VRs.ofLeaf zv.cells.toList).replicate m
  have hv : VRs Γ w (es ++ List.replicate m (zv.cells.toList.map ofLeaf)).flatten (olds ++ (Builtin.zeroCells zv.cells m).toList) := by rw [List.flatten_append]; exact o1.append hnews
  have hg := qot w (es.length + m) es.length el
  obtain ⟨q1, q2⟩ := qz3 (P := P) (el := el) (n := es.length + m) (c' := grownCap w (es.length + m) es.length el) (rest := (Builtin.zeroCells zv.cells (grownCap w (es.length + m) es.length el - (es.length + m))).toList) s hs0 (qeo hr) hv (by simp) hg (by
    have hz1 : (Builtin.zeroCells zv.cells m).toList.length = m * zv.cells.size := by simp [qje]
    have hz2 : (Builtin.zeroCells zv.cells (grownCap w (es.length + m) es.length el - (es.length + m))).toList.length = (grownCap w (es.length + m) es.length el - (es.length + m)) * zv.cells.size := by simp [qje]
    rw [List.length_append, List.length_append, o2, hz1, hz2, hzs, ← Nat.add_mul, ← Nat.add_mul]
    congr 1; omega)
  have hcells : (olds ++ (Builtin.zeroCells zv.cells m).toList ++ (Builtin.zeroCells zv.cells (grownCap w (es.length + m) es.length el - (es.length + m))).toList).toArray = olds.toArray ++ Builtin.zeroCells zv.cells m ++ Builtin.zeroCells zv.cells (grownCap w (es.length + m) es.length el - (es.length + m)) := by
    apply Array.ext'; simp
  rw [hcells] at q1 q2
  refine ⟨_, _, _, _, by rw [hrun]; rfl, .inl rfl, ?_, q1, q2⟩
  simp only [VR, s.len, Ctx.push_new]
  exact ⟨_, _, rfl, hg, by simp, by simp [Ctx.push], Nat.le_refl _, fun _ => ⟨by omega, .inr (by simp)⟩⟩
theorem ok_clr {t el ty : TypeId} {sz o g off len : Nat} {c : Bool} {p : Value} {es : List (List AV)} {z : List AV} (s : SR P Γ σ w) (hp : VR Γ w (.sl o g off len c) p) (ht : P.underlying t = some (.slice el)) (hz : zT P el = some z) (hsz : szT P el = some sz) (h0 : sz ≠ 0)
    (ho : σ[o]? = some (.row sz es g)) (hle : off + len ≤ es.length) (hpl : qo z = true) :
    qoq P Γ w (((Builtin.clear_ #[t] ty #[p]).run P w).andThen fun v w => .ok (.value v) w) (.v (.tuple #[])) (σ.set o (.row sz (es.take off ++ (List.replicate len z ++ es.drop (off + len))) g)) := by
  obtain ⟨i, zv, hi, hzv, hzs, rfl⟩ := q1e hz
  obtain ⟨i', hi', rfl⟩ := qke hsz
  rw [hi] at hi'; cases hi'
  have hO := s.obj o _ ho
  simp only [OR] at hO
  obtain ⟨k1, k2, k3, k4, k5, k6⟩ := hO
  simp only [VR] at hp
  obtain ⟨A, cp, rfl, hlc, _, hn, _, hloc⟩ := hp
  obtain ⟨hb1, hb2⟩ := hloc k1
  rcases Nat.eq_zero_or_pos len with hl0 | hpos
  · subst hl0
    have hst : σ.set o (.row i.size (es.take off ++ (List.replicate 0 (zv.cells.toList.map ofLeaf) ++ es.drop (off + 0))) g) = σ := by
      simp only [List.replicate_zero, List.nil_append, Nat.add_zero, List.take_append_drop]
      obtain ⟨hlt, hge⟩ := List.getElem?_eq_some_iff.1 ho
      rw [← hge, List.set_getElem_self]
    rw [hst]
    refine .here s (v := .tuple #[]) ?_ (by simp only [VR])
    cases A <;> simp [Builtin.clear_, run_underlying ht]
  · have hA : A = some ⟨(Γ.loc o).b, off * (Γ.loc o).sz, none⟩ := hb2.resolve_left (by omega)
    have hct : (Γ.loc o).ct ≠ 0 := by omega
    obtain ⟨arr, et, k7, k8, k9⟩ := k6.resolve_left hct
    rw [k2] at hA
    subst hA
    have hzlen : (zv.cells.toList.map ofLeaf).length = i.size := by simp [hzs]
    have hzc : (Builtin.zeroCells zv.cells len).toList = (List.replicate len zv.cells.toList).flatten := by
      rw [← qqi zv.cells (by omega) len]; simp [Builtin.zeroCells]
    have hvs : VRs Γ w (List.replicate len (zv.cells.toList.map ofLeaf)).flatten (Builtin.zeroCells zv.cells len).toList := by
      rw [hzc]; exact (VRs.ofLeaf zv.cells.toList).replicate len
    have hrep := qpd hzlen hpl len
    have hys : (List.replicate len (zv.cells.toList.map ofLeaf)).flatten.length = len * i.size := by
      rw [qbs (qeo hrep)]; simp
    have hfl := qbs k5
    have hb3 : off * i.size + len * i.size ≤ es.length * i.size := by rw [← Nat.add_mul]; exact Nat.mul_le_mul_right _ hle
    have hb4 : es.length * i.size ≤ arr.size := by rw [k8]; exact Nat.mul_le_mul_right _ k4
    have hvl : (Builtin.zeroCells zv.cells len).toList.length = len * i.size := by rw [hvs.length, hys]
    have hst := run_storeCells_at P (Γ.loc o).b (off * i.size) et (Builtin.zeroCells zv.cells len).toList 0 arr w k7 (by rw [hvl]; omega) (qn9 hvs (qng hrep))
    simp only [Nat.add_zero] at hst
    have hmem : ∀ e ∈ es.take off ++ (List.replicate len (zv.cells.toList.map ofLeaf) ++ es.drop (off + len)), e.length = i.size := fun e he => by
      rcases List.mem_append.1 he with he | he
      · exact k5 e (List.mem_of_mem_take he)
      · rcases List.mem_append.1 he with he | he
        · rw [List.eq_of_mem_replicate he, hzlen]
        · exact k5 e (List.mem_of_mem_drop he)
    have hw := qtm s ho k7 hct g (.inl rfl) (es.take off ++ (List.replicate len (zv.cells.toList.map ofLeaf) ++ es.drop (off + len))) (by simp; omega)
      (arr' := (splice arr.toList (off * i.size) (Builtin.zeroCells zv.cells len).toList).toArray) hmem
      (by simp only [List.size_toArray]; rw [qlu (by rw [hvl]; simp; omega)]; simpa using k8)
      (by
        have := qab.splice (k := off * i.size) (arr := arr.toList) (by simpa using k9) hvs (by rw [hys]; omega) (by rw [hys]; simp; omega)
        have e1 : (es.take off ++ (List.replicate len (zv.cells.toList.map ofLeaf) ++ es.drop (off + len))).flatten = splice es.flatten (off * i.size) (List.replicate len (zv.cells.toList.map ofLeaf)).flatten := by
          rw [List.flatten_append, List.flatten_append, qfv off k5, qkf (off + len) k5]
          unfold splice
          rw [hys, Nat.add_mul]
        rw [e1]
        simpa using this)
    refine ⟨.value (.tuple #[]), .tuple #[], _, _, ?_, .inl rfl, by simp only [VR], hw.1, hw.2⟩
    have hzr := qs9 (P := P) (w := w) hi hzv
    obtain ⟨m, rfl⟩ : ∃ m, len = m + 1 := ⟨len - 1, by omega⟩
    simp [Builtin.clear_, run_underlying ht, hzr, hst, splice]
theorem ok_copy {t tx ty el : TypeId} {sz o g off len : Nat} {c : Bool} {p y : Value} {x : AV} {xs es : List (List AV)} (s : SR P Γ σ w) (hp : VR Γ w (.sl o g off len c) p) (hx : VR Γ w x y) (ht : P.underlying t = some (.slice el)) (htx : ∃ e', P.underlying tx = some (.slice e'))
    (hsz : szT P el = some sz) (hs0 : 0 < sz) (hns : ∀ str, x ≠ .v (.string str)) (hc : qbq σ x = some xs) (hr : qcd sz (xs.take len) = true) (ho : σ[o]? = some (.row sz es g)) (hle : off + len ≤ es.length) :
    qoq P Γ w (((Builtin.copy_ #[t, tx] ty #[p, y]).run P w).andThen fun v w => .ok (.value v) w) (.v (.int .i64 (min xs.length len : Nat))) (σ.set o (.row sz (es.take off ++ ((xs.take len) ++ es.drop (off + min xs.length len))) g)) := by
  obtain ⟨e', htx⟩ := htx
  obtain ⟨inf, hinf, rfl⟩ := qke hsz
  have hsz' : ∀ w : World, (sizeOf el).run P w = .ok inf.size w := fun w => by simp [sizeOf, typeInfo, hinf]
  have hO := s.obj o _ ho
  simp only [OR] at hO
  obtain ⟨k1, k2, k3, k4, k5, k6⟩ := hO
  simp only [VR] at hp
  obtain ⟨A, cp, rfl, hlc, _, hn, _, hloc⟩ := hp
  obtain ⟨hb1, hb2⟩ := hloc k1
  obtain ⟨m, hm⟩ : ∃ m, m = min xs.length len := ⟨_, rfl⟩
  have htl : (xs.take len).length = m := by rw [List.length_take, hm, Nat.min_comm]
  -- what is read
  have hread : ∃ (A2 : Option Addr) (cap2 : Nat) (news : List Value), y = .slice A2 xs.length cap2 ∧ VRs Γ w (xs.take len).flatten news ∧ (Builtin.firstCells inf.size m (.slice A2 xs.length cap2)).run P w = .ok news.toArray w := by
    have fromCells : ∀ (A2 : Option Addr) (cap2 : Nat), y = .slice A2 xs.length cap2 → (xs.take len ≠ [] → ∃ b off', A2 = some ⟨b, off', none⟩ ∧ qab Γ w (xs.take len).flatten (fun j => w.cell? ⟨b, off' + j, none⟩)) → ∃ (A2 : Option Addr) (cap2 : Nat) (news : List Value), y = .slice A2 xs.length cap2 ∧ VRs Γ w (xs.take len).flatten news ∧ (Builtin.firstCells inf.size m (.slice A2 xs.length cap2)).run P w = .ok news.toArray w := by
      intro A2 cap2 hy hcells
      by_cases hne : xs.take len = []
      · rw [hne] at htl
        have hm0 : m = 0 := by simpa using htl.symm
        refine ⟨A2, cap2, [], hy, by rw [hne]; simp [VRs], ?_⟩
        rw [hm0]
        cases A2 with
        | none => exact run_firstCells_none _ _ _ _ _
        | some A => exact run_firstCells_some _ inf.size 0 A _ _ [] (by simp) (by simp)
      · obtain ⟨b, off', rfl, hv⟩ := hcells hne
        obtain ⟨news, h1, h2⟩ := hv.list
        have hl := h1.length
        rw [qbs (qeo hr), htl] at hl
        exact ⟨_, cap2, news, hy, h1, run_firstCells_some w inf.size m _ _ _ news hl fun j u hj => by rw [Addr.add_lit]; exact h2 j u hj⟩
    have takeCells : ∀ {b off' : Nat} {get : Nat → Option Value}, (∀ e ∈ xs, e.length = inf.size) → qab Γ w xs.flatten get → qab Γ w (xs.take len).flatten get := by
      intro b off' get hl h
      rw [qfv len hl]
      exact h.take _
    unfold qbq at hc
    split at hc
    · cases hc
      by_cases hne : xs = []
      · subst hne
        simp only [VR] at hx
        obtain ⟨A2, cap2, rfl, _⟩ := hx
        exact fromCells A2 cap2 rfl (fun h => absurd (by simp) h)
      · obtain ⟨b, off', sz', cap2, h1, _, _, _, _, h5, h2⟩ := qk7 hx hne
        refine fromCells _ cap2 h1 fun hne2 => ⟨b, off', rfl, ?_⟩
        have hsz2 : sz' = inf.size := by
          cases hxt : xs.take len with
          | nil => exact absurd hxt hne2
          | cons e r =>
            have h6 := qeo hr e (by rw [hxt]; simp)
            have h7 := h5 e (List.mem_of_mem_take (i := len) (by rw [hxt]; simp))
            omega
        subst hsz2
        exact takeCells (b := 0) (off' := 0) h5 h2
    · rename_i o2 g2 off2 len2 c2
      split at hc
      · rename_i sz2 es2 g2' ho2
        split at hc
        · rename_i hg
          obtain ⟨rfl, hle2⟩ := hg
          cases hc
          have hn2 : ((es2.drop off2).take len2).length = len2 := by simp; omega
          by_cases hpos : 0 < len2
          · obtain ⟨cap2, h1, _, _, _, h2⟩ := qqs s hx ho2 hle2 hpos
            have hO2 := s.obj o2 _ ho2
            simp only [OR] at hO2
            rw [← hn2] at h1
            refine fromCells _ cap2 h1 fun hne2 => ⟨_, _, rfl, ?_⟩
            have h5 : ∀ e ∈ (es2.drop off2).take len2, e.length = sz2 := fun e he => hO2.2.2.2.2.1 e (List.mem_of_mem_drop (List.mem_of_mem_take he))
            have hsz2 : sz2 = inf.size := by
              cases hxt : ((es2.drop off2).take len2).take len with
              | nil => exact absurd hxt hne2
              | cons e r =>
                have h6 := qeo hr e (by rw [hxt]; simp)
                have h7 := h5 e (List.mem_of_mem_take (i := len) (by rw [hxt]; simp))
                omega
            subst hsz2
            exact takeCells (b := 0) (off' := 0) h5 h2
          · obtain rfl : len2 = 0 := by omega
            simp only [VR] at hx
            obtain ⟨A2, cap2, rfl, _⟩ := hx
            refine fromCells A2 cap2 (by rw [hn2]) fun h => absurd (by simp) h
        · cases hc
      · cases hc
    · rename_i str
      exact absurd rfl (hns str)
    · cases hc
  obtain ⟨A2, cap2, news, rfl, hnews, hfirst⟩ := hread
  have hlen : (Builtin.lenOf (.slice A2 xs.length cap2)).run P w = .ok xs.length w := rfl
  have hmn : Nat.min xs.length len = m := hm.symm
  have hres : (.v (.int .i64 (min xs.length len : Nat)) : AV) = .v (goInt m) := by rw [← hm]; rfl
  rw [hres, ← hm]
  rcases Nat.eq_zero_or_pos m with hm0 | hpos
  · have ht0 : xs.take len = [] := List.eq_nil_of_length_eq_zero (by omega)
    have hst : σ.set o (.row inf.size (es.take off ++ (xs.take len ++ es.drop (off + m))) g) = σ := by
      rw [ht0, hm0, Nat.add_zero, List.nil_append, List.take_append_drop]
      obtain ⟨hlt, hge⟩ := List.getElem?_eq_some_iff.1 ho
      rw [← hge, List.set_getElem_self]
    rw [hst]
    have hn0 : news = [] := by
      have := hnews.length
      rw [ht0] at this
      exact List.eq_nil_of_length_eq_zero (by simpa using this)
    subst hn0
    refine .here s (v := goInt m) ?_ (by simp only [VR])
    cases A <;> simp [Builtin.copy_, run_underlying ht, hsz', hlen, hmn, hfirst, storeCells]
  · have hA : A = some ⟨(Γ.loc o).b, off * (Γ.loc o).sz, none⟩ := hb2.resolve_left (by omega)
    have hct : (Γ.loc o).ct ≠ 0 := by omega
    obtain ⟨arr, et, k7, k8, k9⟩ := k6.resolve_left hct
    rw [k2] at hA
    subst hA
    have hys : (xs.take len).flatten.length = m * inf.size := by rw [qbs (qeo hr), htl]
    have hfl := qbs k5
    have hle' : off + m ≤ es.length := by omega
    have hb3 : off * inf.size + m * inf.size ≤ es.length * inf.size := by rw [← Nat.add_mul]; exact Nat.mul_le_mul_right _ hle'
    have hb4 : es.length * inf.size ≤ arr.size := by rw [k8]; exact Nat.mul_le_mul_right _ k4
    have hvl : news.length = m * inf.size := by rw [hnews.length, hys]
    have hst := run_storeCells_at P (Γ.loc o).b (off * inf.size) et news 0 arr w k7 (by rw [hvl]; omega) (qn9 hnews (qng hr))
    simp only [Nat.add_zero] at hst
    have hmem : ∀ e ∈ es.take off ++ (xs.take len ++ es.drop (off + m)), e.length = inf.size := fun e he => by
      rcases List.mem_append.1 he with he | he
      · exact k5 e (List.mem_of_mem_take he)
      · rcases List.mem_append.1 he with he | he
        · exact qeo hr e he
        · exact k5 e (List.mem_of_mem_drop he)
    have hw := qtm s ho k7 hct g (.inl rfl) (es.take off ++ (xs.take len ++ es.drop (off + m))) (by simp only [List.length_append, List.length_take, List.length_drop]; omega)
      (arr' := (splice arr.toList (off * inf.size) news).toArray) hmem
      (by simp only [List.size_toArray]; rw [qlu (by rw [hvl]; simp; omega)]; simpa using k8)
      (by
        have := qab.splice (k := off * inf.size) (arr := arr.toList) (by simpa using k9) hnews (by rw [hys]; omega) (by rw [hys]; simp; omega)
        have e1 : (es.take off ++ (xs.take len ++ es.drop (off + m))).flatten = splice es.flatten (off * inf.size) (xs.take len).flatten := by
          rw [List.flatten_append, List.flatten_append, qfv off k5, qkf (off + m) k5]
          unfold splice
          rw [hys, Nat.add_mul]
        rw [e1]
        simpa using this)
    refine ⟨.value (goInt m), goInt m, _, _, ?_, .inl rfl, by simp only [VR], hw.1, hw.2⟩
    simp [Builtin.copy_, run_underlying ht, hsz', hlen, hmn, hfirst, hst, splice]
theorem q33 (sz : Nat) (f : Nat × Operand → Option (Nat × Opnd)) (hf : ∀ i x p, f (i, x) = some p → ∃ y, qdh x = some y ∧ p = (i, y)) (hv : VE Γ w e a) :
    ∀ (parts : List (Nat × Operand)) (ps : List (Nat × Opnd)) (es es' : List (List AV)) (arr : Array Value), qgn f parts = some ps → qfm e sz es ps = some es' → (∀ x ∈ es, x.length = sz) → VRs Γ w es.flatten arr.toList →
      ∃ arr', Instr.fill (fun i => some (i * sz, sz)) arr (parts.map fun (i, x) => (i, a.eval x)) = some arr' ∧ VRs Γ w es'.flatten arr'.toList ∧ (∀ x ∈ es', x.length = sz) ∧ es'.length = es.length
  | [], ps, es, es', arr, h1, h2, h3, h4 => by
    simp only [qgn] at h1; cases h1
    simp only [qfm] at h2; cases h2
    exact ⟨arr, by simp [Instr.fill], h4, h3, rfl⟩
  | (i, x) :: parts, ps, es, es', arr, h1, h2, h3, h4 => by
    simp only [qgn] at h1
    obtain ⟨p, hp, h1⟩ := Option.bind_eq_some_iff.1 h1
    obtain ⟨ps', hps, h1⟩ := Option.bind_eq_some_iff.1 h1
    cases h1
    obtain ⟨y, hy, rfl⟩ := hf i x p hp
    simp only [qfm] at h2
    obtain ⟨b, hb, h2⟩ := Option.bind_eq_some_iff.1 h2
    split at h2
    · rename_i hc
      obtain ⟨hc1, hc2, hc3⟩ := hc
      have hcells : VRs Γ w b.cells (a.eval x).cells.toList := qsq (qa7 hy hb hv) hc3
      have hl := hcells.length
      have hl2 := h4.length
      rw [qbs h3] at hl2
      simp only [Array.length_toList] at hl hl2
      have hbound : i * sz + sz ≤ es.length * sz := by
        have : (i + 1) * sz ≤ es.length * sz := Nat.mul_le_mul_right _ hc2
        rw [Nat.add_mul] at this; omega
      simp only [List.map_cons, Instr.fill]
      have hnot : ¬ ((a.eval x).cells.size ≠ sz || decide (i * sz + (a.eval x).cells.size > arr.size)) = true := by
        rw [hl, hl2]; simp; omega
      rw [if_neg hnot]
      have hz := qr9 (i * sz) (a.eval x).cells.toList 0 arr (by simp; omega)
      obtain ⟨c, hci⟩ : ∃ c, es[i]? = some c := ⟨es[i], List.getElem?_eq_getElem hc2⟩
      have hcl := h3 c (qo2 hci)
      have hset : (es.set i b.cells).flatten = splice es.flatten (i * sz) b.cells := by
        have := qrk (off := 0) (ys := b.cells) h3 hci (by omega)
        have hs : splice c 0 b.cells = b.cells := by
          unfold splice
          rw [List.take_zero, List.nil_append, List.drop_eq_nil_of_le (by omega), List.append_nil]
        rw [hs] at this
        simpa using this
      obtain ⟨arr', g1, g2, g3, g4⟩ := q33 sz f hf hv parts ps' (es.set i b.cells) es' (splice arr.toList (i * sz) (a.eval x).cells.toList).toArray hps h2
        (fun x hx => by
          rcases List.mem_or_eq_of_mem_set hx with hx | rfl
          · exact h3 x hx
          · exact hc1) (by rw [hset]; exact h4.splice hcells (i * sz))
      refine ⟨arr', ?_, g2, g3, by simpa using g4⟩
      rw [show (a.eval x).cells.zipIdx.foldl (fun cs (c, j) => cs.setIfInBounds (i * sz + j) c) arr = (splice arr.toList (i * sz) (a.eval x).cells.toList).toArray by
        apply Array.ext'
        rw [← Array.foldl_toList, Array.toList_zipIdx, hz]
        rfl]
      exact g1
    · cases h2
theorem run_bsl {t el : TypeId} {i : TypeInfo} {z : Value} {n : Nat} {parts : Array (Nat × Value)} {arr : Array Value} (ht : P.underlying t = some (.slice el)) (hi : P.info? el = some i) (hz : i.zero = some z) (hsz : z.cells.size = i.size) (h0 : 0 < i.size)
    (hsm : n * i.size ≤ 2 ^ 24) (hf : Instr.fill (fun j => some (j * i.size, i.size)) (madeCells z.cells (n * z.cells.size)) parts.toList = some arr) :
    (Instr.buildSlice t n parts).run P w = .ok (.slice (some ⟨w.heap.size, 0, none⟩) n n) (w.alloc (.cells arr el)) := by
  have hsm' : ¬ (2 ^ 24 < n * i.size) := by omega
  rw [hsz] at hf
  by_cases hn : n * i.size = 0
  · have hn0 : n = 0 := by
      rcases Nat.mul_eq_zero.1 hn with h | h
      · exact h
      · omega
    subst hn0
    have : madeCells z.cells (0 * i.size) = #[] := by simp [madeCells]
    rw [this] at hf
    simp [Instr.buildSlice, run_underlying ht, qg5 hi, Array.range_zero', hf, newRow]
  · exact run_buildSlice w t el n parts arr i z ht hi hz (by omega) hn hf
theorem ok_bsl {t el : TypeId} {z : List AV} {n : Nat} {parts : Array (Nat × Operand)} {ps : List (Nat × Opnd)} {es : List (List AV)} (s : SR P Γ σ w) (hv : VE Γ w e a) (ht : P.underlying t = some (.slice el)) (hz : zT P el = some z)
    (hps : qgn (fun (i, x) => (qdh x).bind fun x => some (i, x)) parts.toList = some ps) (hes : qfm e z.length (List.replicate n z) ps = some es) (hne : z ≠ []) (hsm : n * z.length ≤ 2 ^ 24) :
    ∃ arr, (Instr.buildSlice t n (parts.map fun (i, x) => (i, a.eval x))).run P w = .ok (.slice (some ⟨w.heap.size, 0, none⟩) n n) (w.alloc (.cells arr el)) ∧ VRs Γ w es.flatten arr.toList ∧ (∀ x ∈ es, x.length = z.length) ∧ es.length = n ∧ 0 < z.length := by
  obtain ⟨i, zv, hi, hzv, hsz, rfl⟩ := q1e hz
  have hlen : 0 < zv.cells.size := by
    rcases Nat.eq_zero_or_pos zv.cells.size with h | h
    · exact absurd (by simp [Array.size_eq_zero_iff.1 h]) hne
    · exact h
  simp only [List.length_map, Array.length_toList] at hes hsm
  obtain ⟨arr, g1, g2, g3, g4⟩ := q33 zv.cells.size (fun (i, x) => (qdh x).bind fun x => some (i, x)) (fun i x p hp => by
    obtain ⟨y, hy, hp⟩ := Option.bind_eq_some_iff.1 hp
    cases hp; exact ⟨y, hy, rfl⟩) hv parts.toList ps (List.replicate n (zv.cells.toList.map ofLeaf)) es (madeCells zv.cells (n * zv.cells.size)) hps hes (fun x hx => by rw [List.eq_of_mem_replicate hx]; simp) (q4q zv hlen (VRs.ofLeaf _) n)
  refine ⟨arr, run_bsl (P := P) ht hi hzv hsz (by omega) (by rw [← hsz]; exact hsm) ?_, g2, by simpa using g3, by simpa using g4, by simpa using hlen⟩
  rw [← hsz, Array.toList_map]
  exact g1
theorem qwc {t : TypeId} {k : Bool} (h : q0b P t = some k) : ((k = false ∧ P.underlying t = some .bool) ∨ (k = true ∧ ∃ i, P.underlying t = some (.int i))) ∧ szT P t = some 1 := by
  unfold q0b at h
  split at h
  · rename_i hu; split at h <;> cases h; exact ⟨.inl ⟨rfl, hu⟩, ‹_›⟩
  · rename_i i hu; split at h <;> cases h; exact ⟨.inr ⟨rfl, i, hu⟩, ‹_›⟩
  · cases h
theorem q5d {t : TypeId} {k : Bool} (h : q0b P t = some k) : (P.underlying t).isSome = true ∧ qwb P t = false := by
  obtain ⟨⟨_, h1⟩ | ⟨_, i, h1⟩, _⟩ := qwc h <;> simp [qwb, h1]
theorem ql0 {t : TypeId} {k : Bool} {vs : Array Value} {off : Nat} {v : Value} (h : q0b P t = some k) (hv : vs[off]? = some v) : (part t vs off).run P w = .ok v w := by
  obtain ⟨h1, h2⟩ := q5d h
  simp [part, qok h1, h2, hv]
theorem q62 {t : TypeId} {k : Bool} {ks : List Bool} {x y : AV} {xs ys : List AV} {u v : Value} {r : Bool} (hs : q0b P t = some k) (hx : VR Γ w x u) (hy : VR Γ w y v) (he : qhe (k :: ks) (x :: xs) (y :: ys) = some r) (d : Nat) :
    ∃ r1 r2, (Op.equalIn (d + 1) t u v).run P w = .ok r1 w ∧ qhe ks xs ys = some r2 ∧ r = (r1 && r2) := by
  obtain ⟨hu, _⟩ := qwc hs
  unfold qhe at he
  split at he
  · rename_i h _ _; cases h
  · rename_i k1 i1 a1 xs1 i2 a2 ys1 e0 e1 e2
    cases e0; cases e1; cases e2
    simp only [VR] at hx hy
    subst hx hy
    split at he
    · rename_i hk
      subst hk
      obtain ⟨r2, h2, he⟩ := Option.bind_eq_some_iff.1 he
      cases he
      rcases hu with ⟨h, _⟩ | ⟨_, k, hu⟩
      · cases h
      · exact ⟨a1 == a2, r2, run_equalIn_int w d t _ k _ _ hu, h2, rfl⟩
    · cases he
  · rename_i k1 a1 xs1 a2 ys1 e0 e1 e2
    cases e0; cases e1; cases e2
    simp only [VR] at hx hy
    subst hx hy
    obtain ⟨r2, h2, he⟩ := Option.bind_eq_some_iff.1 he
    cases he
    rcases hu with ⟨_, hu⟩ | ⟨h, _⟩
    · exact ⟨a1 == a2, r2, run_equalIn_bool w d t _ _ hu, h2, rfl⟩
    · cases h
  · cases he
theorem qu3 {k : Bool} {ks : List Bool} {xs ys : List AV} {r : Bool} (h : qhe (k :: ks) xs ys = some r) : ∃ x xs' y ys', xs = x :: xs' ∧ ys = y :: ys' := by
  cases xs with
  | nil => cases k <;> simp [qhe] at h
  | cons x xs =>
    cases ys with
    | nil => unfold qhe at h; split at h <;> simp_all
    | cons y ys => exact ⟨x, xs, y, ys, rfl, rfl⟩
theorem qws (d : Nat) : ∀ (fs : List Field) (off : Nat) (ks : List Bool) (xs ys : List AV) (us vs : Array Value) (r : Bool), qxc P off fs = some ks → qhe ks xs ys = some r →
    VRs Γ w xs (us.toList.drop off) → VRs Γ w ys (vs.toList.drop off) → (Op.eqFields (d + 1) us vs fs).run P w = .ok r w
  | [], off, ks, xs, ys, us, vs, r, h1, h2, h3, h4 => by
    simp only [qxc] at h1; cases h1
    unfold qhe at h2
    split at h2 <;> simp_all [Op.eqFields]
  | f :: fs, off, ks, xs, ys, us, vs, r, h1, h2, h3, h4 => by
    simp only [qxc] at h1
    split at h1
    · rename_i hc
      obtain ⟨k, hk, h1⟩ := Option.bind_eq_some_iff.1 h1
      obtain ⟨ks', hks, h1⟩ := Option.bind_eq_some_iff.1 h1
      cases h1
      obtain ⟨x, xs', y, ys', rfl, rfl⟩ := qu3 h2
      simp only [VRs] at h3 h4
      obtain ⟨u, us', eu, hxu, h3⟩ := h3
      obtain ⟨v, vs', ev, hyv, h4⟩ := h4
      have hu : us[off]? = some u := by
        have : us.toList[off]? = some u := by rw [← List.head?_drop, eu]; rfl
        simpa using this
      have hv : vs[off]? = some v := by
        have : vs.toList[off]? = some v := by rw [← List.head?_drop, ev]; rfl
        simpa using this
      obtain ⟨r1, r2, q1, q2, rfl⟩ := q62 hk hxu hyv h2 d
      have hu' : us.toList.drop (off + 1) = us' := by rw [← List.drop_drop, eu]; rfl
      have hv' : vs.toList.drop (off + 1) = vs' := by rw [← List.drop_drop, ev]; rfl
      have ih := qws d fs (off + 1) ks' xs' ys' us vs r2 hks q2 (by rw [hu']; exact h3) (by rw [hv']; exact h4)
      simp only [Op.eqFields, hc.1, ne_eq, not_false_eq_true, if_true, Sem.run_bind, hc.2, ql0 hk hu, ql0 hk hv, Result.andThen_ok, q1]
      cases r1
      · simp
      · simpa using ih
    · cases h1
theorem qzk (d : Nat) {el : TypeId} {k : Bool} (hk : q0b P el = some k) (hone : P.cellsOf el = 1) : ∀ (n off : Nat) (xs ys : List AV) (us vs : Array Value) (r : Bool), qhe (List.replicate n k) xs ys = some r →
    VRs Γ w xs (us.toList.drop off) → VRs Γ w ys (vs.toList.drop off) → (Op.eqItems (d + 1) el (P.cellsOf el) us vs (List.range' off n)).run P w = .ok r w
  | 0, off, xs, ys, us, vs, r, h2, h3, h4 => by
    unfold qhe at h2
    split at h2 <;> simp_all [Op.eqItems]
  | n + 1, off, xs, ys, us, vs, r, h2, h3, h4 => by
    rw [List.replicate_succ] at h2
    obtain ⟨x, xs', y, ys', rfl, rfl⟩ := qu3 h2
    simp only [VRs] at h3 h4
    obtain ⟨u, us', eu, hxu, h3⟩ := h3
    obtain ⟨v, vs', ev, hyv, h4⟩ := h4
    have hu : us[off]? = some u := by
      have : us.toList[off]? = some u := by rw [← List.head?_drop, eu]; rfl
      simpa using this
    have hv : vs[off]? = some v := by
      have : vs.toList[off]? = some v := by rw [← List.head?_drop, ev]; rfl
      simpa using this
    obtain ⟨r1, r2, q1, q2, rfl⟩ := q62 hk hxu hyv h2 d
    have hu' : us.toList.drop (off + 1) = us' := by rw [← List.drop_drop, eu]; rfl
    have hv' : vs.toList.drop (off + 1) = vs' := by rw [← List.drop_drop, ev]; rfl
    have ih := qzk d hk hone n (off + 1) xs' ys' us vs r2 q2 (by rw [hu']; exact h3) (by rw [hv']; exact h4)
    simp only [List.range'_succ, Op.eqItems, Sem.run_bind, hone, Nat.mul_one, ql0 hk hu, ql0 hk hv, Result.andThen_ok, q1]
    rw [hone] at ih
    cases r1
    · simp
    · simpa using ih
theorem q3a {t : TypeId} (h : szT P t = some 1) : P.cellsOf t = 1 := by
  obtain ⟨i, hi, hs⟩ := qke h
  simp [Program.cellsOf, hi, hs]
theorem q1x {t : TypeId} {ks : List Bool} (h : q24 P t = some ks) (d : Nat) : P.eqGuardType (d + 2) t = false := by
  have hsc : ∀ {t k}, q0b P t = some k → ∀ d, P.eqGuardType (d + 1) t = false := by
    intro t k hk d
    obtain ⟨⟨_, h1⟩ | ⟨_, i, h1⟩, _⟩ := qwc hk <;> simp [Program.eqGuardType, h1]
  unfold q24 at h
  split at h
  · rename_i n e hu
    obtain ⟨k, hk, _⟩ := Option.bind_eq_some_iff.1 h
    rw [Program.eqGuardType, hu]
    exact hsc hk d
  · rename_i fs hu
    split at h
    · have : ∀ (l : List Field) (off : Nat) (ks : List Bool), qxc P off l = some ks → (l.any fun f => f.name != "_" && P.eqGuardType (d + 1) f.type) = false := by
        intro l
        induction l with
        | nil => intro _ _ _; rfl
        | cons f l ih =>
          intro off ks hl
          simp only [qxc] at hl
          split at hl
          · obtain ⟨k, hk, hl⟩ := Option.bind_eq_some_iff.1 hl
            obtain ⟨ks', hks, _⟩ := Option.bind_eq_some_iff.1 hl
            simp [List.any_cons, hsc hk, ih _ _ hks]
          · cases hl
      have h2 := this _ _ _ h
      simp only [Program.eqGuardType, hu]
      rw [← Array.any_toList]
      exact h2
    · cases h
  · cases h
theorem q5m {t : TypeId} {ks : List Bool} {x y : List AV} {u v : Value} {r : Bool} {op : BinOp} {xo yo : Operand} (hop : op = .eql ∨ op = .neq) (hf : q24 P t = some ks) (hx : VR Γ w (.agg x) u) (hy : VR Γ w (.agg y) v) (he : qhe ks x y = some r) :
    (do eqGuard op t xo yo u v; binOp op t u v : Sem Value).run P w = .ok (.bool (if op = .neq then !r else r)) w := by
  simp only [VR] at hx hy
  obtain ⟨us, rfl, hx⟩ := hx
  obtain ⟨vs, rfl, hy⟩ := hy
  have hd : P.depth = 2 * (P.types.size + Made.depth) + 2 := rfl
  have hg : (eqGuard op t xo yo (.agg us.toArray) (.agg vs.toArray)).run P w = .ok () w := by
    unfold eqGuard
    have h1 := q1x hf (2 * (P.types.size + Made.depth))
    rw [← hd] at h1
    rcases hop with rfl | rfl <;> simp [h1]
  have heq : (Op.equal t (.agg us.toArray) (.agg vs.toArray)).run P w = .ok r w := by
    unfold Op.equal Op.maxDepth
    have hf' := hf
    unfold q24 at hf
    split at hf
    · rename_i n el hu
      obtain ⟨k, hk, hks⟩ := Option.bind_eq_some_iff.1 hf
      cases hks
      obtain ⟨_, hsz⟩ := qwc hk
      obtain ⟨i, hi, _⟩ := qke hsz
      rw [run_equalIn_array w 9999 _ _ hu hi, List.range_eq_range']
      exact qzk 9998 hk (q3a hsz) n 0 _ _ _ _ _ he (by simpa using hx) (by simpa using hy)
    · rename_i fs hu
      split at hf
      · rename_i hst
        have hfo : P.underlying t = some (.struct (P.fieldsOf t)) := by simp [Program.fieldsOf, hu]
        rw [run_equalIn_struct w 9999 t _ _ hfo hst]
        have : P.fieldsOf t = fs := by simp [Program.fieldsOf, hu]
        rw [this]
        exact qws 9998 _ 0 ks _ _ _ _ _ hf he (by simpa using hx) (by simpa using hy)
      · cases hf
    · cases hf
  simp only [Sem.run_bind, hg, Result.andThen_ok]
  rcases hop with rfl | rfl
  · simp [binOp, heq]
  · simp [binOp, heq]
end Go.Ev
namespace Go.Ev
open Go.RowKit (Below)
variable {P : Program} {Γ Γ' : Ctx} {w w' : World} {σ σ' : qr} {e : Env} {a : Act} {av : AV}
theorem ok_bin {op : BinOp} {t : TypeId} {xo yo : Operand} {x y r : AV} {u v : Value} (hx : VR Γ w x u) (hy : VR Γ w y v) (he : qli op x y = some r) :
    ∃ z, (do eqGuard op t xo yo u v; binOp op t u v : Sem Value).run P w = .ok z w ∧ VR Γ w r z := by
  unfold qli at he
  split at he
  · rename_i k i k' j
    simp only [VR] at hx hy
    subst hx hy
    have hg : ∀ op, (eqGuard op t xo yo (.int k i) (.int k' j)).run P w = .ok () w := fun op => by
      unfold eqGuard; cases op <;> simp
    simp only [Sem.run_bind, hg, Result.andThen_ok]
    split at he
    · split at he
      · cases he
      · cases he
        refine ⟨_, ?_, by simp only [VR]; rfl⟩
        simp [binOp, Op.shift, *]
    · split at he
      · cases he
      · cases he
        refine ⟨_, ?_, by simp only [VR]; rfl⟩
        simp [binOp, Op.shift, *]
    · split at he
      · rename_i hk
        subst hk
        split at he <;> (try split at he) <;> first
          | (cases he; done)
          | (cases he
             refine ⟨_, ?_, by simp only [VR]; rfl⟩
             simp_all [binOp, Op.intArith, Op.intDiv, Op.intBits, Op.intCmp])
      · cases he
  · rename_i i j
    simp only [VR] at hx hy
    subst hx hy
    have hg : ∀ op, (eqGuard op t xo yo (.string i) (.string j)).run P w = .ok () w := fun op => by
      unfold eqGuard; cases op <;> simp
    simp only [Sem.run_bind, hg, Result.andThen_ok]
    split at he
    · split at he
      · cases he
        refine ⟨_, ?_, by simp only [VR]; rfl⟩
        have : (i.size : Int) + (j.size : Int) ≤ 9223372036854775807 := by omega
        simp [binOp, Op.stringOp, this]
      · cases he
    · cases he
      refine ⟨_, ?_, by simp only [VR]; rfl⟩
      simp [binOp, Op.stringOp, beq_toListBytes]
    · cases he
      refine ⟨_, ?_, by simp only [VR]; rfl⟩
      simp [binOp, Op.stringOp, beq_toListBytes]
    · cases he
  · cases he
theorem ok_eqb {t : TypeId} {x y : Bool} {op : BinOp} {xo yo : Operand} (hop : op = .eql ∨ op = .neq) (hu : P.underlying t = some .bool) :
    (do eqGuard op t xo yo (.bool x) (.bool y); binOp op t (.bool x) (.bool y) : Sem Value).run P w = .ok (.bool (if op = .neq then !(x == y) else x == y)) w := by
  have hg : ∀ op, (eqGuard op t xo yo (.bool x) (.bool y)).run P w = .ok () w := fun op => by
    unfold eqGuard; cases op <;> simp
  have he : (Op.equal t (.bool x) (.bool y)).run P w = .ok (x == y) w := run_equalIn_bool w 9999 t _ _ hu
  simp only [Sem.run_bind, hg, Result.andThen_ok]
  rcases hop with rfl | rfl <;> simp [binOp, he]
theorem VRs.set {cs : List AV} {vs : List Value} {i : Nat} {x : AV} {v : Value} (h : VRs Γ w cs vs) (hv : vs[i]? = some v) (hx : VR Γ w x v) : VRs Γ w (cs.set i x) vs := by
  induction cs generalizing vs i with
  | nil => simpa using h
  | cons c cs ih =>
    simp only [VRs] at h
    obtain ⟨u, us, rfl, h1, h2⟩ := h
    cases i with
    | zero =>
      simp at hv; subst hv
      simp only [List.set_cons_zero, VRs]
      exact ⟨_, _, rfl, hx, h2⟩
    | succ i =>
      simp only [List.set_cons_succ, VRs]
      exact ⟨_, _, rfl, h1, ih h2 (by simpa using hv)⟩
theorem VRs.at {cs : List AV} {vs : List Value} {i : Nat} {x : AV} (h : VRs Γ w cs vs) (hi : cs[i]? = some x) : ∃ v, vs[i]? = some v ∧ VR Γ w x v := by
  induction cs generalizing vs i with
  | nil => simp at hi
  | cons c cs ih =>
    simp only [VRs] at h
    obtain ⟨u, us, rfl, h1, h2⟩ := h
    cases i with
    | zero => simp at hi; subst hi; exact ⟨u, rfl, h1⟩
    | succ i => simpa using ih h2 (by simpa using hi)
theorem q76 : ∀ (os : List (Nat × Nat)) {Γ : Ctx} {σ σ2 : qr} {cs cs2 : List AV} {vs : List Value}, SR P Γ σ w → VRs Γ w cs vs → q25 σ cs os = some (cs2, σ2) →
    ∃ Γ2, VRs Γ2 w cs2 vs ∧ SR P Γ2 σ2 w ∧ Ext Γ Γ2 w w
  | [], Γ, σ, σ2, cs, cs2, vs, s, h, ho => by simp only [q25] at ho; cases ho; exact ⟨Γ, h, s, Ext.refl _ _⟩
  | (off, sz) :: os, Γ, σ, σ2, cs, cs2, vs, s, h, ho => by
    simp only [q25] at ho
    split at ho
    · rename_i hc
      split at ho
      · rename_i h0
        obtain ⟨v, hv, hx⟩ := h.at hc
        obtain ⟨k1, k2, k3⟩ := qob (P := P) s h0 hx
        obtain ⟨Γ2, m1, m2, m3⟩ := q76 os k1 (VRs.set (VRs.mono k2 _ _ h) hv k3) ho
        exact ⟨Γ2, m1, m2, k2.trans m3⟩
      · cases ho
    · cases ho
theorem q6h {t : TypeId} {m key x : Operand} {c : COp} (s : SR P Γ σ w)
    (hc : ((mapT P t).bind fun (k, _) => (qdh m).bind fun m => (qdh key).bind fun key => (qdh x).bind fun x => some (COp.mput k m key x)) = some c) (he : qai e σ c = some (av, σ')) (hv : VE Γ w e a) :
    qoq P Γ w (((Instr.mapUpdate t (a.eval m) (a.eval key) (a.eval x)).run P w).andThen fun _ w => .ok .skip w) av σ' := by
  rw [Option.bind_eq_some_iff] at hc; obtain ⟨⟨k, z⟩, ht, hc⟩ := hc
  rw [Option.bind_eq_some_iff] at hc; obtain ⟨m', hm, hc⟩ := hc
  rw [Option.bind_eq_some_iff] at hc; obtain ⟨key', hkey, hc⟩ := hc
  rw [Option.bind_eq_some_iff] at hc; obtain ⟨x', hx, hc⟩ := hc
  cases hc
  simp only [qai] at he
  rw [Option.bind_eq_some_iff] at he; obtain ⟨p, hp, he⟩ := he
  rw [Option.bind_eq_some_iff] at he; obtain ⟨i, hi, he⟩ := he
  rw [Option.bind_eq_some_iff] at he; obtain ⟨y, hy, he⟩ := he
  split at he
  · split at he
    · rename_i o k' n _ k2 es ho
      split at he
      · rename_i hcc
        obtain ⟨rfl, rfl, hlo⟩ := hcc
        cases he
        obtain ⟨kt, et, inf, zv, t1, t2, _, _, _⟩ := q8b ht
        have hkv := qa7 hkey hi hv
        simp only [VR] at hkv
        rw [hkv]
        exact ok_mput (P := P) (n := n) s (qa7 hm hp hv) (qa7 hx hy hv) hlo t1 t2 ho
      · cases he
    · cases he
  · cases he
theorem op_ok {h : Hints} {o : Oper} {c : COp} (hc : cOp P h o = some c) (he : qai e σ c = some (av, σ')) (hv : VE Γ w e a) (s : SR P Γ σ w) : qoq P Γ w ((execOp a.eval o).run P w) av σ' := by
  obtain ⟨dst, op, type, pos, after, guard⟩ := o
  cases op with
  | move x =>
    simp only [cOp] at hc
    rw [Option.bind_eq_some_iff] at hc; obtain ⟨x', hx, hc⟩ := hc
    split at hc
    · cases hc
      simp only [qai] at he
      rw [Option.bind_eq_some_iff] at he; obtain ⟨y, hy, he⟩ := he
      have hy' := qa7 hx hy hv
      split at he
      · split at he
        · rename_i ho
          split at he
          · rename_i hc2
            obtain ⟨rfl, hle⟩ := hc2
            cases he
            obtain ⟨q1, q2⟩ := qoo s hy' ho hle
            exact ⟨_, _, w, _, by simp [execOp], .inl rfl, q2, q1, Ext.drop Γ w _⟩
          · cases he
        · cases he
      · cases he
        exact .here s (by simp [execOp]) hy'
    · cases hc
      simp only [qai] at he
      rw [Option.bind_eq_some_iff] at he; obtain ⟨y, hy, he⟩ := he
      cases he
      exact .here s (by simp [execOp]) (qa7 hx hy hv)
  | assign x =>
    simp only [cOp] at hc
    split at hc
    · split at hc
      · rw [Option.bind_eq_some_iff] at hc; obtain ⟨el, hel, hc⟩ := hc
        rw [Option.bind_eq_some_iff] at hc; obtain ⟨sz, hsz, hc⟩ := hc
        cases hc
        simp only [qai] at he
        split at he
        · cases he
          have hB := Below.refl w.heap.size w
          refine ⟨_, .slice none 0 0, w, Γ.push ⟨0, 0, sz, 0⟩, by simp [execOp]; rfl, .inl rfl, ?_, s.push hB _ (fun h => absurd rfl h) ?_, Ext.push hB _ (fun h => absurd rfl h)⟩
          · simp only [VR, s.len, Ctx.push_new]
            exact ⟨none, 0, rfl, Nat.le_refl _, fun _ => rfl, by simp [Ctx.push], Nat.le_refl _, fun _ => ⟨Nat.le_refl _, .inl rfl⟩⟩
          · simp only [OR, Ctx.push_new]
            exact ⟨trivial, trivial, ‹_›, by simp, by simp, .inl trivial⟩
        · cases he
      · cases hc
      · rw [Option.bind_eq_some_iff] at hc; obtain ⟨x', hx, hc⟩ := hc
        cases hc
        simp only [qai] at he
        rw [Option.bind_eq_some_iff] at he; obtain ⟨y, hy, he⟩ := he
        cases he
        exact .here s (by simp [execOp]) (qa7 hx hy hv)
    · rw [Option.bind_eq_some_iff] at hc; obtain ⟨x', hx, hc⟩ := hc
      cases hc
      simp only [qai] at he
      rw [Option.bind_eq_some_iff] at he; obtain ⟨y, hy, he⟩ := he
      cases he
      exact .here s (by simp [execOp]) (qa7 hx hy hv)
  | pick c x y =>
    simp only [cOp] at hc
    rw [Option.bind_eq_some_iff] at hc; obtain ⟨c', hc', hc⟩ := hc
    rw [Option.bind_eq_some_iff] at hc; obtain ⟨x', hx, hc⟩ := hc
    rw [Option.bind_eq_some_iff] at hc; obtain ⟨y', hy, hc⟩ := hc
    cases hc
    simp only [qai] at he
    rw [Option.bind_eq_some_iff] at he; obtain ⟨t, ht, he⟩ := he
    split at he
    · rename_i t
      have htv := qa7 hc' ht hv
      simp only [VR] at htv
      rw [Option.bind_eq_some_iff] at he; obtain ⟨r, hr, he⟩ := he
      cases he
      split at hr
      · rename_i h1; subst h1
        exact .here s (v := a.eval x) (by simp [execOp, htv, asBool]) (qa7 hx hr hv)
      · rename_i h1
        have h1 : t = false := by simpa using h1
        subst h1
        exact .here s (v := a.eval y) (by simp [execOp, htv, asBool]) (qa7 hy hr hv)
    · cases he
  | alloc t =>
    simp only [cOp] at hc
    rw [Option.bind_eq_some_iff] at hc; obtain ⟨z, hz, hc⟩ := hc
    split at hc
    · cases hc
      simp only [qai] at he
      split at he
      · cases he
        have := (q4a (P := P) s (q8w hz) (And.left ‹_›)).hole
        simpa only [execOp, Sem.run_bind, Sem.run_pure, List.append_assoc, List.singleton_append] using this
      · cases he
    · split at hc
      · cases hc
        simp only [qai] at he
        split at he
        · cases he
          have := q4a (P := P) s (q8w hz) (And.left ‹_›)
          simpa only [execOp, Sem.run_bind, Sem.run_pure] using this
        · cases he
      · cases hc
        simp only [qai] at he
        rw [Option.bind_eq_some_iff] at he; obtain ⟨y, hy, he⟩ := he
        split at he
        · split at he
          · rename_i hh
            split at he
            · cases he
              have := q72 (P := P) s (q8w hz) (And.left ‹_›) hh
              simpa only [execOp, Sem.run_bind, Sem.run_pure] using this
            · cases he
          · cases he
        · cases he
  | box t x =>
    simp only [cOp] at hc
    rw [Option.bind_eq_some_iff] at hc; obtain ⟨x', hx, hc⟩ := hc
    split at hc
    · split at hc
      · cases hc
        simp only [qai] at he
        rw [Option.bind_eq_some_iff] at he; obtain ⟨y, hy, he⟩ := he
        split at he
        · cases he
          have := (q71 (P := P) (t := t) s (qa7 hx hy hv) (And.right ‹_›)).hole
          simpa only [execOp, Sem.run_bind, Sem.run_pure] using this
        · cases he
      · cases hc
        simp only [qai] at he
        rw [Option.bind_eq_some_iff] at he; obtain ⟨y, hy, he⟩ := he
        split at he
        · cases he
          have := q71 (P := P) (t := t) s (qa7 hx hy hv) (And.right ‹_›)
          simpa only [execOp, Sem.run_bind, Sem.run_pure] using this
        · cases he
    split at hc
    · rw [Option.bind_eq_some_iff] at hc; obtain ⟨el, hel, hc⟩ := hc
      rw [Option.bind_eq_some_iff] at hc; obtain ⟨sz, hsz, hc⟩ := hc
      cases hc
      simp only [qai] at he
      rw [Option.bind_eq_some_iff] at he; obtain ⟨y, hy, he⟩ := he
      split at he
      · split at he
        · rename_i h0
          cases he
          obtain ⟨s2, e2, hv2⟩ := qob s h0 (qa7 hx hy hv)
          obtain ⟨nx, v, w', Γ', q1, q2, q3, q4, q5⟩ := ok_box (P := P) (t := t) s2 hv2 (by simp [AV.cells]) (by rfl)
          have hr : (execOp a.eval ⟨dst, .box t x, type, pos, after, guard⟩).run P w = .ok nx w' := by simpa only [execOp, Sem.run_bind, Sem.run_pure] using q1
          refine ⟨nx, v, w', Γ', hr, q2, ?_, ?_, e2.trans q5⟩
          · rw [List.length_append] at q3; exact q3
          · rw [List.append_assoc] at q4; exact q4
        · cases he
      · cases he
    · cases hc
      simp only [qai] at he
      rw [Option.bind_eq_some_iff] at he; obtain ⟨y, hy, he⟩ := he
      split at he
      · cases he
        have := ok_box (P := P) (t := t) s (qa7 hx hy hv) (And.left ‹_›) (And.right ‹_›)
        simpa only [execOp, Sem.run_bind, Sem.run_pure] using this
      · cases he
  | build t parts =>
    simp only [cOp] at hc
    rw [Option.bind_eq_some_iff] at hc; obtain ⟨z, hz, hc⟩ := hc
    obtain ⟨i, zv, hi, hzv, hsz, rfl⟩ := q1e hz
    have fin : ∀ (place : Nat → Option (Nat × Nat)) (f : Nat × Operand → Option (Nat × Nat × Opnd)) (ps : List (Nat × Nat × Opnd)) (zz cs : List AV), (∀ i x p, f (i, x) = some p → ∃ q y, place i = some q ∧ qdh x = some y ∧ p = (q.1, q.2, y)) →
        qgn f parts.toList = some ps → VRs Γ w zz zv.cells.toList → qfz e zz ps = some cs → (∀ vs : List (Nat × Value), P.built t vs = Instr.fill place zv.cells vs) →
        ∃ arr : Array Value, (execOp a.eval ⟨dst, .build t parts, type, pos, after, guard⟩).run P w = .ok (.value (.agg arr)) w ∧ VRs Γ w cs arr.toList := by
      intro place f ps zz cs hf hps hzz hcs hb
      obtain ⟨arr, g1, g2⟩ := q8l place f hf hv parts.toList ps _ cs zv.cells hps hcs hzz
      have hr : (Instr.build t (parts.map fun (i, x) => (i, a.eval x))).run P w = .ok (.agg arr) w := run_build w t _ _ (by rw [Array.toList_map, hb]; exact g1)
      exact ⟨arr, by simp only [execOp, Sem.run_bind, hr]; rfl, g2⟩
    have one : ∀ (place : Nat → Option (Nat × Nat)) (f : Nat × Operand → Option (Nat × Nat × Opnd)) (ps : List (Nat × Nat × Opnd)) (zz : List AV), VRs Γ w zz zv.cells.toList → (∀ i x p, f (i, x) = some p → ∃ q y, place i = some q ∧ qdh x = some y ∧ p = (q.1, q.2, y)) →
        qgn f parts.toList = some ps → c = .build zz ps → (∀ vs : List (Nat × Value), P.built t vs = Instr.fill place zv.cells vs) → qoq P Γ w ((execOp a.eval ⟨dst, .build t parts, type, pos, after, guard⟩).run P w) av σ' := by
      rintro place f ps zz hzz hf hps rfl hb
      simp only [qai] at he
      rw [Option.bind_eq_some_iff] at he; obtain ⟨cs, hcs, he⟩ := he
      cases he
      obtain ⟨arr, g1, g2⟩ := fin place f ps _ cs hf hps hzz hcs hb
      refine .here s (v := .agg arr) g1 ?_
      simp only [VR]
      exact ⟨arr.toList, by simp, g2⟩
    split at hc
    · rename_i fs hu
      rw [Option.bind_eq_some_iff] at hc; obtain ⟨places, hpl, hc⟩ := hc
      rw [Option.bind_eq_some_iff] at hc; obtain ⟨ps, hps, hc⟩ := hc
      have hf : ∀ (i : Nat) (x : Operand) (p : Nat × Nat × Opnd), ((places[i]?).bind fun (p : Nat × Nat) => (qdh x).bind fun x => some (p.1, p.2, x)) = some p → ∃ (q : Nat × Nat) (y : Opnd), places[i]? = some q ∧ qdh x = some y ∧ p = (q.1, q.2, y) := fun i x p hp => by
        obtain ⟨q, hq, hp⟩ := Option.bind_eq_some_iff.1 hp
        obtain ⟨y, hy, hp⟩ := Option.bind_eq_some_iff.1 hp
        cases hp
        exact ⟨q, y, hq, hy, rfl⟩
      have hb : ∀ vs : List (Nat × Value), P.built t vs = Instr.fill (places[·]?) zv.cells vs := fun vs => by simp [Program.built, hi, hu, hzv, hpl]
      split at hc
      · split at hc
        · rw [Option.bind_eq_some_iff] at hc; obtain ⟨zz, hzz, hc⟩ := hc
          cases hc
          have hz2 : VRs Γ w zz zv.cells.toList := by
            obtain ⟨i2, zv2, q1, q2, _, rfl⟩ := q0x hzz
            rw [hi] at q1; cases q1
            rw [hzv] at q2; cases q2
            exact VRs.ofTop _
          exact one (places[·]?) _ ps zz hz2 hf hps rfl hb
        · cases hc
          exact one (places[·]?) _ ps _ (VRs.ofLeaf _) hf hps rfl hb
      · rw [Option.bind_eq_some_iff] at hc; obtain ⟨zz, hzz, hc⟩ := hc
        cases hc
        simp only [qai] at he
        rw [Option.bind_eq_some_iff] at he; obtain ⟨cs, hcs, he⟩ := he
        rw [Option.bind_eq_some_iff] at he; obtain ⟨⟨cs2, σ2⟩, ho, he⟩ := he
        cases he
        have hz2 : VRs Γ w zz zv.cells.toList := by
          obtain ⟨i2, zv2, q1, q2, _, rfl⟩ := q0x hzz
          rw [hi] at q1; cases q1
          rw [hzv] at q2; cases q2
          exact VRs.ofTop _
        obtain ⟨arr, g1, g2⟩ := fin (places[·]?) _ ps _ cs hf hps hz2 hcs hb
        obtain ⟨Γ2, k1, k2, k3⟩ := q76 (P := P) _ s g2 ho
        refine ⟨_, .agg arr, w, Γ2, g1, .inl rfl, ?_, k2, k3⟩
        simp only [VR]
        exact ⟨arr.toList, by simp, k1⟩
    · rename_i n el hu
      rw [Option.bind_eq_some_iff] at hc; obtain ⟨sz, hsz', hc⟩ := hc
      rw [Option.bind_eq_some_iff] at hc; obtain ⟨ps, hps, hc⟩ := hc
      cases hc
      obtain ⟨ie, hie, rfl⟩ := qke hsz'
      refine one (fun i => some (i * ie.size, ie.size)) _ ps _ (VRs.ofLeaf _) (fun i x p hp => ?_) hps rfl (fun vs => by simp [Program.built, hi, hu, hzv, hie])
      obtain ⟨y, hy, hp⟩ := Option.bind_eq_some_iff.1 hp
      cases hp
      exact ⟨_, y, rfl, hy, rfl⟩
    · cases hc
  | buildSlice t n parts =>
    simp only [cOp] at hc
    rw [Option.bind_eq_some_iff] at hc; obtain ⟨el, hel, hc⟩ := hc
    rw [Option.bind_eq_some_iff] at hc; obtain ⟨z, hz, hc⟩ := hc
    rw [Option.bind_eq_some_iff] at hc; obtain ⟨ps, hps, hc⟩ := hc
    have ht := qiw hel
    split at hc
    · cases hc
      simp only [qai] at he
      rw [Option.bind_eq_some_iff] at he; obtain ⟨es, hes, he⟩ := he
      split at he
      · rename_i hcc
        cases he
        obtain ⟨arr, hr, g1, g2, g3, g4⟩ := ok_bsl (P := P) s hv ht hz hps hes hcc.1 hcc.2.2
        have hal := g1.length
        rw [qbs g2, g3, Array.length_toList] at hal
        obtain ⟨q1, q2⟩ := qqv (P := P) s (qdc w (.cells arr el)) (Nat.le_refl _) (b := w.heap.size) (et := el) (arr := arr) (qib _ _) z.length n es g4 (by omega) g2 hal (vs := arr.toList) g1 (by simp)
        refine ⟨_, _, _, _, by simp only [execOp, Sem.run_bind, hr]; rfl, .inl rfl, ?_, q1, q2⟩
        simp only [VR, s.len, Ctx.push_new]
        exact ⟨_, n, rfl, Nat.le_refl _, fun _ => rfl, by simp [Ctx.push], Nat.le_refl _, fun _ => ⟨by omega, .inr (by simp)⟩⟩
      · cases he
    · cases hc
      simp only [qai] at he
      rw [Option.bind_eq_some_iff] at he; obtain ⟨es, hes, he⟩ := he
      split at he
      · rename_i hcc
        cases he
        obtain ⟨arr, hr, g1, g2, g3, g4⟩ := ok_bsl (P := P) s hv ht hz hps hes hcc.1 hcc.2
        have hB := qdc w (.cells arr el)
        refine ⟨_, _, _, Γ, by simp only [execOp, Sem.run_bind, hr]; rfl, .inl rfl, ?_, s.of_below hB, .of_below Γ hB⟩
        simp only [VR]
        refine ⟨_, n, by rw [g3], by omega, fun _ => g3.symm, .inr ⟨w.heap.size, 0, z.length, rfl, q6v s hB (Nat.le_refl _) (by simp), g4, g2, ?_⟩⟩
        rw [qkd g2]
        exact qab.of_list (VRs.mono (.of_below Γ hB) _ _ g1) fun j v hj => by simpa using hj
      · cases he
  | load t x =>
    simp only [cOp] at hc
    rw [Option.bind_eq_some_iff] at hc; obtain ⟨sz, hsz, hc⟩ := hc
    rw [Option.bind_eq_some_iff] at hc; obtain ⟨x', hx, hc⟩ := hc
    split at hc
    · rename_i hcc
      have he : ∃ p cs r, x'.ev e = some p ∧ qf σ p = some cs ∧ qv sz (qwb P t) cs = some r ∧ av = r ∧ σ' = σ := by
        split at hc
        · cases hc
          simp only [qai] at he
          rw [Option.bind_eq_some_iff] at he; obtain ⟨p, hp, he⟩ := he
          split at he
          · rename_i cs
            rw [Option.bind_eq_some_iff] at he; obtain ⟨r, hr, he⟩ := he
            cases he
            exact ⟨_, cs, _, hp, rfl, hr, rfl, rfl⟩
          · cases he
        split at hc
        · split at hc
          · cases hc
            simp only [qai] at he
            rw [Option.bind_eq_some_iff] at he; obtain ⟨p, hp, he⟩ := he
            rw [Option.bind_eq_some_iff] at he; obtain ⟨cs, hcs, he⟩ := he
            rw [Option.bind_eq_some_iff] at he; obtain ⟨r, hr, he⟩ := he
            cases he
            exact ⟨p, cs, _, hp, hcs, hr, rfl, rfl⟩
          · cases hc
            simp only [qai] at he
            rw [Option.bind_eq_some_iff] at he; obtain ⟨p, hp, he⟩ := he
            split at he
            · rw [Option.bind_eq_some_iff] at he; obtain ⟨cs, hcs, he⟩ := he
              rw [Option.bind_eq_some_iff] at he; obtain ⟨r, hr, he⟩ := he
              cases he
              exact ⟨p, cs, _, hp, hcs, hr, rfl, rfl⟩
            · cases he
        · cases hc
          simp only [qai] at he
          rw [Option.bind_eq_some_iff] at he; obtain ⟨p, hp, he⟩ := he
          split at he
          · rw [Option.bind_eq_some_iff] at he; obtain ⟨cs, hcs, he⟩ := he
            rw [Option.bind_eq_some_iff] at he; obtain ⟨r, hr, he⟩ := he
            cases he
            exact ⟨p, cs, _, hp, hcs, hr, rfl, rfl⟩
          · cases he
      obtain ⟨p, cs, r, hp, hcs, hr, rfl, rfl⟩ := he
      have := ok_ld (P := P) s (qa7 hx hp hv) hcs hsz hcc.1 hcc.2 hr
      simpa only [execOp, Sem.run_bind, Sem.run_pure] using this
    · cases hc
  | makeMap t r =>
    cases r with
    | some _ => simp [cOp] at hc
    | none =>
      simp only [cOp] at hc
      rw [Option.bind_eq_some_iff] at hc; obtain ⟨⟨k, z⟩, _, hc⟩ := hc
      cases hc
      simp only [qai] at he
      cases he
      simpa only [execOp, Option.map_none, Sem.run_bind, Sem.run_pure] using ok_mkmap (P := P) (t := t) (k := k) s
  | insert t m key x =>
    simp only [cOp] at hc
    have := q6h (P := P) s hc he hv
    simpa only [execOp, Sem.run_bind, Sem.run_pure] using this
  | mapUpdate t m key x =>
    simp only [cOp] at hc
    have := q6h (P := P) s hc he hv
    simpa only [execOp, Sem.run_bind, Sem.run_pure] using this
  | lookup t m key ok =>
    simp only [cOp] at hc
    rw [Option.bind_eq_some_iff] at hc; obtain ⟨⟨k, z⟩, ht, hc⟩ := hc
    rw [Option.bind_eq_some_iff] at hc; obtain ⟨m', hm, hc⟩ := hc
    rw [Option.bind_eq_some_iff] at hc; obtain ⟨key', hkey, hc⟩ := hc
    cases hc
    simp only [qai] at he
    rw [Option.bind_eq_some_iff] at he; obtain ⟨p, hp, he⟩ := he
    rw [Option.bind_eq_some_iff] at he; obtain ⟨i, hi, he⟩ := he
    split at he
    · split at he
      · rename_i o k' n _ k2 es ho
        split at he
        · rename_i hcc
          obtain ⟨rfl, rfl⟩ := hcc
          cases he
          obtain ⟨kt, et, inf, zv, t1, t2, t3, t4, rfl⟩ := q8b ht
          have hkv := qa7 hkey hi hv
          simp only [VR] at hkv
          have := ok_mget (P := P) (n := n) (ok := ok) s (qa7 hm hp hv) t1 t2 t3 t4 ho
          simpa only [execOp, hkv, Sem.run_bind, Sem.run_pure] using this
        · cases he
      · cases he
    · cases he
  | store t x y =>
    simp only [cOp] at hc
    rw [Option.bind_eq_some_iff] at hc; obtain ⟨sz, hsz, hc⟩ := hc
    rw [Option.bind_eq_some_iff] at hc; obtain ⟨x', hx, hc⟩ := hc
    rw [Option.bind_eq_some_iff] at hc; obtain ⟨y', hy, hc⟩ := hc
    cases hc
    simp only [qai] at he
    rw [Option.bind_eq_some_iff] at he; obtain ⟨p, hp, he⟩ := he
    rw [Option.bind_eq_some_iff] at he; obtain ⟨v, hve, he⟩ := he
    split at he
    · split at he
      · rename_i rs es g' ho
        rw [Option.bind_eq_some_iff] at he; obtain ⟨c, hci, he⟩ := he
        split at he
        · rename_i hcc
          obtain ⟨rfl, h1, h2, h3⟩ := hcc
          cases he
          have := ok_st (P := P) s (qa7 hx hp hv) (qa7 hy hve hv) hsz ho hci h1 h2 h3
          simpa only [execOp, Sem.run_bind, Sem.run_pure] using this
        · cases he
      · cases he
    · cases he
  | nilCheck x =>
    simp only [cOp] at hc
    rw [Option.bind_eq_some_iff] at hc; obtain ⟨x', hx, hc⟩ := hc
    cases hc
    simp only [qai] at he
    rw [Option.bind_eq_some_iff] at he; obtain ⟨y, hy, he⟩ := he
    have hxv := qa7 hx hy hv
    split at he
    · cases he
      have h' := hxv
      simp only [VR] at h'
      obtain ⟨b, off, h1, _⟩ := h'
      exact .here s (v := a.eval x) (by simp [execOp, h1]) hxv
    · cases he
      have h' := hxv
      simp only [VR] at h'
      obtain ⟨p, h1, _⟩ := h'
      exact .here s (v := a.eval x) (by simp [execOp, h1]) hxv
    · cases he
  | binOp op t x y yt =>
    simp only [cOp] at hc
    rw [Option.bind_eq_some_iff] at hc; obtain ⟨x', hx, hc⟩ := hc
    rw [Option.bind_eq_some_iff] at hc; obtain ⟨y', hy, hc⟩ := hc
    have agg : ∀ (neg : Bool) (ks : List Bool), (op = .eql ∧ neg = false ∨ op = .neq ∧ neg = true) → q24 P t = some ks → c = .eqs neg ks x' y' → qoq P Γ w ((execOp a.eval ⟨dst, .binOp op t x y yt, type, pos, after, guard⟩).run P w) av σ' := by
      rintro neg ks hop hf rfl
      simp only [qai] at he
      rw [Option.bind_eq_some_iff] at he; obtain ⟨u, hu, he⟩ := he
      rw [Option.bind_eq_some_iff] at he; obtain ⟨v, hvv, he⟩ := he
      split at he
      · rw [Option.bind_eq_some_iff] at he; obtain ⟨r, hr, he⟩ := he
        cases he
        have h1 := q5m (P := P) (xo := x) (yo := y) (op := op) (hop.imp And.left And.left) hf (qa7 hx hu hv) (qa7 hy hvv hv) hr
        refine .here s (v := .bool (if op = .neq then !r else r)) (by simp only [execOp]; rw [Sem.run_bind, h1]; rfl) ?_
        simp only [VR]
        rcases hop with ⟨rfl, rfl⟩ | ⟨rfl, rfl⟩ <;> simp
      · cases he
    have bool : ∀ (neg : Bool), (op = .eql ∧ neg = false ∨ op = .neq ∧ neg = true) → P.underlying t = some .bool → c = .eqb neg x' y' → qoq P Γ w ((execOp a.eval ⟨dst, .binOp op t x y yt, type, pos, after, guard⟩).run P w) av σ' := by
      rintro neg hop hf rfl
      simp only [qai] at he
      rw [Option.bind_eq_some_iff] at he; obtain ⟨u, hu, he⟩ := he
      rw [Option.bind_eq_some_iff] at he; obtain ⟨v, hvv, he⟩ := he
      split at he
      · rename_i b1 b2
        cases he
        have e1 := qa7 hx hu hv
        have e2 := qa7 hy hvv hv
        simp only [VR] at e1 e2
        have h1 := ok_eqb (P := P) (w := w) (x := b1) (y := b2) (xo := x) (yo := y) (op := op) (hop.imp And.left And.left) hf
        refine .here s (v := .bool (if op = .neq then !(b1 == b2) else b1 == b2)) (by simp only [execOp, e1, e2]; rw [Sem.run_bind, h1]; rfl) ?_
        simp only [VR]
        rcases hop with ⟨rfl, rfl⟩ | ⟨rfl, rfl⟩ <;> simp
      · cases he
    have bin : c = .bin op x' y' → qoq P Γ w ((execOp a.eval ⟨dst, .binOp op t x y yt, type, pos, after, guard⟩).run P w) av σ' := by
      rintro rfl
      simp only [qai] at he
      rw [Option.bind_eq_some_iff] at he; obtain ⟨u, hu, he⟩ := he
      rw [Option.bind_eq_some_iff] at he; obtain ⟨v, hvv, he⟩ := he
      rw [Option.bind_eq_some_iff] at he; obtain ⟨r, hr, he⟩ := he
      cases he
      obtain ⟨z, h1, h2⟩ := ok_bin (P := P) (t := t) (xo := x) (yo := y) (qa7 hx hu hv) (qa7 hy hvv hv) hr
      exact .here s (v := z) (by simp only [execOp]; rw [Sem.run_bind, h1]; rfl) h2
    split at hc
    · rw [Option.bind_eq_some_iff] at hc; obtain ⟨ks, hks, hc⟩ := hc
      cases hc; exact agg _ _ (.inl ⟨rfl, rfl⟩) hks rfl
    · rw [Option.bind_eq_some_iff] at hc; obtain ⟨ks, hks, hc⟩ := hc
      cases hc; exact agg _ _ (.inl ⟨rfl, rfl⟩) hks rfl
    · rw [Option.bind_eq_some_iff] at hc; obtain ⟨ks, hks, hc⟩ := hc
      cases hc; exact agg _ _ (.inr ⟨rfl, rfl⟩) hks rfl
    · rw [Option.bind_eq_some_iff] at hc; obtain ⟨ks, hks, hc⟩ := hc
      cases hc; exact agg _ _ (.inr ⟨rfl, rfl⟩) hks rfl
    · cases hc; exact bool _ (.inl ⟨rfl, rfl⟩) ‹_› rfl
    · cases hc; exact bool _ (.inr ⟨rfl, rfl⟩) ‹_› rfl
    · cases hc; exact bin rfl
    · cases hc; exact bin rfl
    · cases hc
  | unOp op t x =>
    simp only [cOp] at hc
    rw [Option.bind_eq_some_iff] at hc; obtain ⟨x', hx, hc⟩ := hc
    cases hc
    simp only [qai] at he
    rw [Option.bind_eq_some_iff] at he; obtain ⟨y, hy, he⟩ := he
    have hxv := qa7 hx hy hv
    split at he
    · cases he
      simp only [VR] at hxv
      exact .here s (by simp only [execOp, hxv, Op.unary]; rfl) (by simp only [VR])
    · cases he
      simp only [VR] at hxv
      exact .here s (by simp only [execOp, hxv, Op.unary, Op.intArith]; rfl) (by simp only [VR])
    · cases he
  | convert sT dT x =>
    simp only [cOp] at hc
    rw [Option.bind_eq_some_iff] at hc; obtain ⟨x', hx, hc⟩ := hc
    split at hc
    · rename_i k1 k2 hs hd
      cases hc
      simp only [qai] at he
      rw [Option.bind_eq_some_iff] at he; obtain ⟨y, hy, he⟩ := he
      have hxv := qa7 hx hy hv
      split at he
      · cases he
        simp only [VR] at hxv
        refine .here s (v := .int k2 (k2.wrap _)) (by simp [execOp, hxv, convert, run_underlying hs, run_underlying hd, Conv.intToInt]; rfl) (by simp only [VR])
      · cases he
    · cases hc
  | makeFunc f first cap =>
    simp only [cOp] at hc
    rw [Option.bind_eq_some_iff] at hc; obtain ⟨x', hx, hc⟩ := hc
    rw [Option.bind_eq_some_iff] at hc; obtain ⟨y', hy, hc⟩ := hc
    cases hc
    simp only [qai] at he
    rw [Option.bind_eq_some_iff] at he; obtain ⟨u, hu, he⟩ := he
    rw [Option.bind_eq_some_iff] at he; obtain ⟨v, hvv, he⟩ := he
    cases he
    refine .here s (v := .func f (first.map a.eval) (cap.map a.eval)) (by simp [execOp, Instr.makeFunc]) ?_
    simp only [VR]
    refine ⟨first.toList.map a.eval, cap.toList.map a.eval, ?_, qko hx hu hv, qko hy hvv hv⟩
    congr 1 <;> (apply Array.ext'; simp)
  | makeSlice t l c' =>
    simp only [cOp] at hc
    rw [Option.bind_eq_some_iff] at hc; obtain ⟨el, hel, hc⟩ := hc
    rw [Option.bind_eq_some_iff] at hc; obtain ⟨z, hz, hc⟩ := hc
    rw [Option.bind_eq_some_iff] at hc; obtain ⟨by', hby, hc⟩ := hc
    rw [Option.bind_eq_some_iff] at hc; obtain ⟨x', hx, hc⟩ := hc
    rw [Option.bind_eq_some_iff] at hc; obtain ⟨y', hy, hc⟩ := hc
    split at hc
    · cases hc
      simp only [qai] at he
      rw [Option.bind_eq_some_iff] at he; obtain ⟨u, hu, he⟩ := he
      rw [Option.bind_eq_some_iff] at he; obtain ⟨v, hvv, he⟩ := he
      split at he
      · split at he
        · rename_i hcc
          obtain ⟨rfl, q1, q2, q3, q4⟩ := hcc
          cases he
          have e1 := qa7 hx hu hv
          have e2 := qa7 hy hvv hv
          simp only [VR] at e1 e2
          have := ok_mkslO (P := P) s (qiw hel) (q8w hz) hby q1 q2 q3 q4
          simpa only [execOp, Sem.run_bind, Sem.run_pure, e1, e2] using this
        · cases he
      · cases he
    cases hc
    simp only [qai] at he
    rw [Option.bind_eq_some_iff] at he; obtain ⟨u, hu, he⟩ := he
    rw [Option.bind_eq_some_iff] at he; obtain ⟨v, hvv, he⟩ := he
    split at he
    · split at he
      · rename_i hcc
        cases he
        have e1 := qa7 hx hu hv
        have e2 := qa7 hy hvv hv
        simp only [VR] at e1 e2
        have := ok_mksl (P := P) s (qiw hel) (q8w hz) hby hcc.1 hcc.2.1 hcc.2.2.1 hcc.2.2.2.1 hcc.2.2.2.2.1
        simpa only [execOp, Sem.run_bind, Sem.run_pure, e1, e2] using this
      · cases he
    · cases he
  | slice t x lo hi mx =>
    simp only [cOp] at hc
    rw [Option.bind_eq_some_iff] at hc; obtain ⟨x', hx, hc⟩ := hc
    rw [Option.bind_eq_some_iff] at hc; obtain ⟨lo', hlo, hc⟩ := hc
    rw [Option.bind_eq_some_iff] at hc; obtain ⟨hi', hhi, hc⟩ := hc
    rw [Option.bind_eq_some_iff] at hc; obtain ⟨mx', hmx, hc⟩ := hc
    have isS : ∀ {x : Option Operand} {y : Option Opnd}, cOpt x = some y → (y.isSome = x.isSome) := fun {x y} h => by
      cases x with
      | none => simp only [cOpt] at h; cases h; rfl
      | some x => simp only [cOpt] at h; obtain ⟨z, _, h⟩ := Option.bind_eq_some_iff.1 h; cases h; rfl
    have arg : ∀ {d n : Int} {x : Option Operand} {x' : Option Opnd}, cOpt x = some x' → qf9 e d x' = some n → (x.map a.eval = none ∧ n = d) ∨ ∃ k, x.map a.eval = some (.int k n) := fun h1 h2 => by
      rcases q8s h1 h2 hv with ⟨rfl, h⟩ | h
      · exact .inl ⟨rfl, h⟩
      · exact .inr h
    split at hc
    · rename_i el hu
      rw [Option.bind_eq_some_iff] at hc; obtain ⟨sz, hsz, hc⟩ := hc
      cases hc
      simp only [qai] at he
      rw [Option.bind_eq_some_iff] at he; obtain ⟨y, hy, he⟩ := he
      have hxv := qa7 hx hy hv
      split at he
      · rename_i es clip
        rw [Option.bind_eq_some_iff] at he; obtain ⟨l, hl, he⟩ := he
        rw [Option.bind_eq_some_iff] at he; obtain ⟨h', hh, he⟩ := he
        rw [Option.bind_eq_some_iff] at he; obtain ⟨m, hm, he⟩ := he
        split at he
        · rename_i hcc
          obtain ⟨c1, c2, c3, c4, c5, c6, c7⟩ := hcc
          cases he
          have hmm : (mx.map a.eval = none ∧ m = h') ∨ ((∃ k, mx.map a.eval = some (.int k m)) ∧ hi.map a.eval ≠ none) := by
            rcases arg hmx hm with h1 | h1
            · exact .inl h1
            · refine .inr ⟨h1, fun hn => ?_⟩
              obtain ⟨k, h1⟩ := h1
              have h2 : mx.isSome = true := by cases mx <;> simp_all
              rw [← isS hmx] at h2
              have h3 := c7 h2
              rw [isS hhi] at h3
              cases hi <;> simp_all
          obtain ⟨v, g1, g2⟩ := q5u (P := P) (if mx'.isSome = true then decide (m = h') else clip && decide (h' = es.length)) hxv hu hsz (by
              cases es with
              | nil => exact .inl rfl
              | cons x es => exact .inr ⟨x, by simp, qeo c6 x (by simp)⟩) (arg hlo hl) (arg hhi hh) hmm c1 c2 c4 c5 c3 (fun hcl => by
              split at hcl
              · rename_i h3
                rw [isS hmx] at h3
                exact .inr ⟨by cases mx <;> simp_all, of_decide_eq_true hcl⟩
              · rename_i h3
                rw [isS hmx] at h3
                simp only [Bool.and_eq_true, decide_eq_true_eq] at hcl
                exact .inl ⟨by cases mx <;> simp_all, hcl⟩)
          exact .here s (v := v) (by simp only [execOp, Sem.run_bind, g1]; rfl) g2
        · cases he
      · rename_i o g off len clip
        split at he
        · rename_i rs es g' ho
          rw [Option.bind_eq_some_iff] at he; obtain ⟨l, hl, he⟩ := he
          rw [Option.bind_eq_some_iff] at he; obtain ⟨h', hh, he⟩ := he
          rw [Option.bind_eq_some_iff] at he; obtain ⟨m, hm, he⟩ := he
          split at he
          · rename_i hcc
            obtain ⟨c1, c2, c3, c4, c5, rfl, rfl, c7⟩ := hcc
            cases he
            have hO := s.obj o _ ho
            simp only [OR] at hO
            have hmm : (mx.map a.eval = none ∧ m = h') ∨ ((∃ k, mx.map a.eval = some (.int k m)) ∧ hi.map a.eval ≠ none) := by
              rcases arg hmx hm with h1 | h1
              · exact .inl h1
              · refine .inr ⟨h1, fun hn => ?_⟩
                obtain ⟨k, h1⟩ := h1
                have h2 : mx.isSome = true := by cases mx <;> simp_all
                rw [← isS hmx] at h2
                have h3 := c7 h2
                rw [isS hhi] at h3
                cases hi <;> simp_all
            obtain ⟨v, g1, g2⟩ := q78 (P := P) (if mx'.isSome = true then decide (m = h') else clip && decide (h' = len)) hxv hu hsz (fun _ => hO.2.1) (arg hlo hl) (arg hhi hh) hmm c1 c2 c4 c5 c3 (fun hcl => by
                split at hcl
                · rename_i h3
                  rw [isS hmx] at h3
                  exact .inr ⟨by cases mx <;> simp_all, of_decide_eq_true hcl⟩
                · rename_i h3
                  rw [isS hmx] at h3
                  simp only [Bool.and_eq_true, decide_eq_true_eq] at hcl
                  exact .inl ⟨by cases mx <;> simp_all, hcl⟩)
            exact .here s (v := v) (by simp only [execOp, Sem.run_bind, g1]; rfl) g2
          · cases he
        · cases he
      · cases he
    · rename_i hu
      split at hc
      · rename_i hmn
        cases hc
        have hmx0 : mx = none := by
          have := isS hmx
          cases mx <;> cases mx' <;> simp_all
        subst hmx0
        simp only [qai] at he
        rw [Option.bind_eq_some_iff] at he; obtain ⟨y, hy, he⟩ := he
        have hxv := qa7 hx hy hv
        split at he
        · rename_i str
          rw [Option.bind_eq_some_iff] at he; obtain ⟨l, hl, he⟩ := he
          rw [Option.bind_eq_some_iff] at he; obtain ⟨h', hh, he⟩ := he
          split at he
          · rename_i hcc
            obtain ⟨c1, c2, c3⟩ := hcc
            cases he
            simp only [VR] at hxv
            have e1 : (h'.toNat : Int) = h' := Int.toNat_of_nonneg (by omega)
            have g1 : 0 ≤ h' := by omega
            have hb : (Instr.sliceBounds false str.size str.size (lo.map a.eval) (hi.map a.eval) none).run P w = .ok (l.toNat, h'.toNat, str.size) w := by
              rcases arg hlo hl with ⟨q1, rfl⟩ | ⟨k1, q1⟩ <;> rcases arg hhi hh with ⟨q2, rfl⟩ | ⟨k2, q2⟩ <;> rw [q1, q2] <;> simp [Instr.sliceBounds, run_sliceBound, *]
            have hr : (Instr.sliceAt t (.string str) (lo.map a.eval) (hi.map a.eval) none).run P w = .ok (.string (str.extract l.toNat h'.toNat)) w := by
              simp [Instr.sliceAt, Instr.slice, run_underlying hu, hb]
            exact .here s (v := .string (str.extract l.toNat h'.toNat)) (by simp only [execOp, Sem.run_bind, hxv]; rw [show (none : Option Operand).map a.eval = none from rfl, hr]; rfl) (by simp only [VR])
          · cases he
        · cases he
      · cases hc
    · cases hc
  | fieldAddr t x f =>
    simp only [cOp] at hc
    split at hc
    · rename_i fs hu
      rw [Option.bind_eq_some_iff] at hc; obtain ⟨fd, hfd, hc⟩ := hc
      rw [Option.bind_eq_some_iff] at hc; obtain ⟨sz, hsz, hc⟩ := hc
      split at hc
      · cases hc
      · rename_i h0
        rw [Option.bind_eq_some_iff] at hc; obtain ⟨x', hx, hc⟩ := hc
        cases hc
        simp only [qai] at he
        rw [Option.bind_eq_some_iff] at he; obtain ⟨y, hy, he⟩ := he
        have hxv := qa7 hx hy hv
        split at he
        · cases he
          obtain ⟨v, h1, h2⟩ := q4c (P := P) hxv hu hfd hsz h0 (.inl ⟨_, rfl, rfl⟩)
          exact .here s (v := v) (by simp only [execOp, Sem.run_bind, h1]; rfl) h2
        · cases he
          obtain ⟨v, h1, h2⟩ := q4c (P := P) hxv hu hfd hsz h0 (.inr ⟨_, _, _, _, rfl, rfl⟩)
          exact .here s (v := v) (by simp only [execOp, Sem.run_bind, h1]; rfl) h2
        · cases he
    · cases hc
  | field t x f =>
    simp only [cOp] at hc
    split at hc
    · rename_i fs hu
      rw [Option.bind_eq_some_iff] at hc; obtain ⟨fd, hfd, hc⟩ := hc
      rw [Option.bind_eq_some_iff] at hc; obtain ⟨sz, hsz, hc⟩ := hc
      split at hc
      · cases hc
      · split at hc
        · rename_i h0 hcc
          rw [Option.bind_eq_some_iff] at hc; obtain ⟨x', hx, hc⟩ := hc
          cases hc
          simp only [qai] at he
          rw [Option.bind_eq_some_iff] at he; obtain ⟨y, hy, he⟩ := he
          have hxv := qa7 hx hy hv
          split at he
          · rw [Option.bind_eq_some_iff] at he; obtain ⟨r, hr, he⟩ := he
            cases he
            simp only [VR] at hxv
            obtain ⟨vs, h3, h4⟩ := hxv
            obtain ⟨v, h1, h2⟩ := q68 (P := P) h4 hsz hcc.1 hcc.2 hr
            exact .here s (v := v) (by simp [execOp, Instr.field, run_underlying hu, hfd, asAgg, h3, h1]) h2
          · cases he
        · cases hc
    · cases hc
  | indexAddr t x i =>
    simp only [cOp] at hc
    rw [Option.bind_eq_some_iff] at hc; obtain ⟨x', hx, hc⟩ := hc
    rw [Option.bind_eq_some_iff] at hc; obtain ⟨i', hi, hc⟩ := hc
    split at hc
    · rename_i el hu
      rw [Option.bind_eq_some_iff] at hc; obtain ⟨sz, hsz, hc⟩ := hc
      split at hc
      · cases hc
      · split at hc
        · cases hc
          simp only [qai] at he
          rw [Option.bind_eq_some_iff] at he; obtain ⟨y, hy, he⟩ := he
          rw [Option.bind_eq_some_iff] at he; obtain ⟨n, hn, he⟩ := he
          have hxv := qa7 hx hy hv
          have hnv := qa7 hi hn hv
          split at he
          · rename_i k n
            simp only [VR] at hnv
            split at he
            · rename_i h0
              split at he
              · rw [Option.bind_eq_some_iff] at he; obtain ⟨c, hci, he⟩ := he
                split at he
                · cases he
                  obtain ⟨v, h1, h2⟩ := qvc (P := P) (k := k) hxv hu hsz h0 hci ‹_›
                  exact .here s (v := v) (by simp only [execOp, Sem.run_bind, hnv, h1]; rfl) h2
                · cases he
              · cases he
            · cases he
          · cases he
        · cases hc
          simp only [qai] at he
          rw [Option.bind_eq_some_iff] at he; obtain ⟨y, hy, he⟩ := he
          rw [Option.bind_eq_some_iff] at he; obtain ⟨n, hn, he⟩ := he
          have hxv := qa7 hx hy hv
          have hnv := qa7 hi hn hv
          split at he
          · rename_i k n
            simp only [VR] at hnv
            split at he
            · rename_i h0
              split at he
              · rw [Option.bind_eq_some_iff] at he; obtain ⟨c, hci, he⟩ := he
                split at he
                · cases he
                  obtain ⟨v, h1, h2⟩ := qvc (P := P) (k := k) hxv hu hsz h0 hci ‹_›
                  exact .here s (v := v) (by simp only [execOp, Sem.run_bind, hnv, h1]; rfl) h2
                · cases he
              · split at he
                · rename_i rs es g' ho
                  split at he
                  · rename_i hcc
                    obtain ⟨rfl, rfl, h3⟩ := hcc
                    cases he
                    obtain ⟨v, h1, h2⟩ := q27 (P := P) (k := k) s hxv hu hsz h0 ho h3
                    exact .here s (v := v) (by simp only [execOp, Sem.run_bind, hnv, h1]; rfl) h2
                  · cases he
                · cases he
              · cases he
            · cases he
          · cases he
    · rename_i m el hu
      rw [Option.bind_eq_some_iff] at hc; obtain ⟨sz, hsz, hc⟩ := hc
      split at hc
      · cases hc
      · cases hc
        simp only [qai] at he
        rw [Option.bind_eq_some_iff] at he; obtain ⟨y, hy, he⟩ := he
        rw [Option.bind_eq_some_iff] at he; obtain ⟨n, hn, he⟩ := he
        have hxv := qa7 hx hy hv
        have hnv := qa7 hi hn hv
        split at he
        · rename_i k n
          simp only [VR] at hnv
          split at he
          · rename_i h0
            split at he
            · cases he
              obtain ⟨v, h1, h2⟩ := q1a (P := P) (k := k) hxv hu hsz h0.1 h0.2 (.inl ⟨_, rfl, rfl⟩)
              exact .here s (v := v) (by simp only [execOp, Sem.run_bind, hnv, h1]; rfl) h2
            · cases he
              obtain ⟨v, h1, h2⟩ := q1a (P := P) (k := k) hxv hu hsz h0.1 h0.2 (.inr ⟨_, _, _, _, rfl, rfl⟩)
              exact .here s (v := v) (by simp only [execOp, Sem.run_bind, hnv, h1]; rfl) h2
            · cases he
          · cases he
        · cases he
    · cases hc
  | index t x i =>
    simp only [cOp] at hc
    rw [Option.bind_eq_some_iff] at hc; obtain ⟨x', hx, hc⟩ := hc
    rw [Option.bind_eq_some_iff] at hc; obtain ⟨i', hi, hc⟩ := hc
    split at hc
    · rename_i hu
      cases hc
      simp only [qai] at he
      rw [Option.bind_eq_some_iff] at he; obtain ⟨y, hy, he⟩ := he
      rw [Option.bind_eq_some_iff] at he; obtain ⟨n, hn, he⟩ := he
      have hxv := qa7 hx hy hv
      have hnv := qa7 hi hn hv
      split at he
      · rename_i str k n
        split at he
        · rename_i h0
          rw [Option.bind_eq_some_iff] at he; obtain ⟨b, hb, he⟩ := he
          cases he
          simp only [VR] at hxv hnv
          have hb' : str[n.toNat]? = some b := by
            have := hb
            rw [Array.getElem?_toList] at this
            obtain ⟨h5, h6⟩ := Array.getElem?_eq_some_iff.1 this
            show getElem? str n.toNat = _
            rw [getElem?_pos str n.toNat h5]
            exact congrArg some h6
          refine .here s (v := .int .u8 b.toNat) (by simp [execOp, Instr.index, asIntOf, hxv, hnv, run_underlying hu, h0, hb']) (by simp only [VR])
        · cases he
      · cases he
    · rename_i m el hu
      rw [Option.bind_eq_some_iff] at hc; obtain ⟨sz, hsz, hc⟩ := hc
      split at hc
      · cases hc
      · split at hc
        · rename_i h0 hcc
          cases hc
          simp only [qai] at he
          rw [Option.bind_eq_some_iff] at he; obtain ⟨y, hy, he⟩ := he
          rw [Option.bind_eq_some_iff] at he; obtain ⟨n, hn, he⟩ := he
          have hxv := qa7 hx hy hv
          have hnv := qa7 hi hn hv
          split at he
          · rename_i cs k n
            split at he
            · rename_i hbb
              rw [Option.bind_eq_some_iff] at he; obtain ⟨r, hr, he⟩ := he
              cases he
              simp only [VR] at hxv hnv
              obtain ⟨vs, h3, h4⟩ := hxv
              obtain ⟨v, h1, h2⟩ := q68 (P := P) h4 hsz hcc.1 hcc.2 hr
              obtain ⟨inf, hinf, rfl⟩ := qke hsz
              have hb : 0 ≤ n ∧ n < m := ⟨hbb.1, by omega⟩
              exact .here s (v := v) (by simp [execOp, Instr.index, asIntOf, hnv, h3, run_underlying hu, hb, qg5 hinf, h1]) h2
            · cases he
          · cases he
        · cases hc
    · cases hc
  | extract x k =>
    simp only [cOp] at hc
    rw [Option.bind_eq_some_iff] at hc; obtain ⟨x', hx, hc⟩ := hc
    cases hc
    simp only [qai] at he
    rw [Option.bind_eq_some_iff] at he; obtain ⟨y, hy, he⟩ := he
    have hxv := qa7 hx hy hv
    split at he
    · rw [Option.bind_eq_some_iff] at he; obtain ⟨r, hr, he⟩ := he
      cases he
      simp only [VR] at hxv
      obtain ⟨vs, h3, h4⟩ := hxv
      obtain ⟨v, h1, h2⟩ := h4.get hr
      exact .here s (v := v) (by simp [execOp, Instr.extract, h3, h1]) h2
    · cases he
  | call c' =>
    obtain ⟨callee, args, argTypes⟩ := c'
    simp only [cOp] at hc
    have two : ∀ {x y : Operand}, args.toList = [x, y] → args.map a.eval = #[a.eval x, a.eval y] := fun {x y} h => by
      apply Array.ext'; rw [Array.toList_map, h]; rfl
    split at hc
    · rename_i x hargs
      have one : args.map a.eval = #[a.eval x] := by apply Array.ext'; rw [Array.toList_map, hargs]; rfl
      split at hc
      · rename_i el hd
        rw [Option.bind_eq_some_iff] at hd; obtain ⟨t, ht, hu⟩ := hd
        rw [Option.bind_eq_some_iff] at hc; obtain ⟨x', hx, hc⟩ := hc
        cases hc
        simp only [qai] at he
        rw [Option.bind_eq_some_iff] at he; obtain ⟨y, hy, he⟩ := he
        have hxv := qa7 hx hy hv
        split at he
        · cases he
          simp only [VR] at hxv
          obtain ⟨A, cp, h1, _⟩ := hxv
          exact .here s (v := goInt _) (by simp [execOp, resolve, one, invoke, builtin, Builtin.len_, ht, run_underlying hu, h1]; rfl) (by simp only [VR]; rfl)
        · cases he
          simp only [VR] at hxv
          obtain ⟨A, cp, h1, _⟩ := hxv
          exact .here s (v := goInt _) (by simp [execOp, resolve, one, invoke, builtin, Builtin.len_, ht, run_underlying hu, h1]; rfl) (by simp only [VR]; rfl)
        · cases he
      · rename_i hd
        rw [Option.bind_eq_some_iff] at hd; obtain ⟨t, ht, hu⟩ := hd
        rw [Option.bind_eq_some_iff] at hc; obtain ⟨x', hx, hc⟩ := hc
        cases hc
        simp only [qai] at he
        rw [Option.bind_eq_some_iff] at he; obtain ⟨y, hy, he⟩ := he
        have hxv := qa7 hx hy hv
        split at he
        · cases he
          simp only [VR] at hxv
          exact .here s (v := goInt _) (by simp [execOp, resolve, one, invoke, builtin, Builtin.len_, ht, run_underlying hu, hxv]; rfl) (by simp only [VR]; rfl)
        · cases he
      · cases hc
    · rename_i x hargs
      have one : args.map a.eval = #[a.eval x] := by apply Array.ext'; rw [Array.toList_map, hargs]; rfl
      split at hc
      · rename_i el hd
        rw [Option.bind_eq_some_iff] at hd; obtain ⟨t, ht, hu⟩ := hd
        rw [Option.bind_eq_some_iff] at hc; obtain ⟨x', hx, hc⟩ := hc
        cases hc
        simp only [qai] at he
        rw [Option.bind_eq_some_iff] at he; obtain ⟨y, hy, he⟩ := he
        have hxv := qa7 hx hy hv
        split at he
        · cases he
          simp only [VR] at hxv
          obtain ⟨A, cp, h1, _, h2, _⟩ := hxv
          have h2 := h2 trivial
          subst h2
          exact .here s (v := goInt _) (by simp [execOp, resolve, one, invoke, builtin, Builtin.cap_, ht, run_underlying hu, h1]; rfl) (by simp only [VR]; rfl)
        · cases he
          simp only [VR] at hxv
          obtain ⟨A, cp, h1, _, h2, _⟩ := hxv
          have h2 := h2 trivial
          subst h2
          exact .here s (v := goInt _) (by simp [execOp, resolve, one, invoke, builtin, Builtin.cap_, ht, run_underlying hu, h1]; rfl) (by simp only [VR]; rfl)
        · cases he
      · cases hc
    · rename_i x hargs
      have one : args.map a.eval = #[a.eval x] := by apply Array.ext'; rw [Array.toList_map, hargs]; rfl
      split at hc
      · rename_i el hd
        rw [Option.bind_eq_some_iff] at hd; obtain ⟨t, ht, hu⟩ := hd
        rw [Option.bind_eq_some_iff] at hc; obtain ⟨z, hz, hc⟩ := hc
        rw [Option.bind_eq_some_iff] at hc; obtain ⟨sz, hsz, hc⟩ := hc
        rw [Option.bind_eq_some_iff] at hc; obtain ⟨x', hx, hc⟩ := hc
        split at hc
        · cases hc
        rename_i h0
        cases hc
        simp only [qai] at he
        rw [Option.bind_eq_some_iff] at he; obtain ⟨y, hy, he⟩ := he
        have hxv := qa7 hx hy hv
        have hrun : (execOp a.eval ⟨dst, .call ⟨.builtin .clear, args, argTypes⟩, type, pos, after, guard⟩).run P w = ((Builtin.clear_ #[t] type #[a.eval x]).run P w).andThen fun v w => .ok (.value v) w := by
          have : Builtin.clear_ argTypes type #[a.eval x] = Builtin.clear_ #[t] type #[a.eval x] := by
            unfold Builtin.clear_
            simp [ht]
          simp [execOp, resolve, one, invoke, builtin, this]
        rw [hrun]
        split at he
        · cases he
          simp only [VR] at hxv
          obtain ⟨A, cp, h1, _⟩ := hxv
          refine .here s (v := .tuple #[]) ?_ (by simp only [VR])
          rw [h1]
          cases A <;> simp [Builtin.clear_, run_underlying hu]
        · split at he
          · rename_i ho
            split at he
            · rename_i hcc
              obtain ⟨rfl, rfl, q1, q2⟩ := hcc
              cases he
              exact ok_clr (P := P) s hxv hu hz hsz h0 ho q1 q2
            · cases he
          · cases he
        · cases he
      · cases hc
    · rename_i x y hargs
      have hmap := two hargs
      have fin : ∀ (t tx : TypeId), argTypes[0]? = some t → argTypes[1]? = some tx → ((∃ e', P.underlying tx = some (.slice e')) ∨ P.underlying tx = some .string) →
          ((qrf P t).bind fun e => (szT P e).bind fun sz => (byT P e).bind fun b => (qdh x).bind fun s => (qdh y).bind fun x =>
            if sz = 0 ∨ b = 0 ∨ (zT P e).isNone = true then none else if qm6 h.appN dst = true then some (COp.appN sz b s x) else if qm6 h.appF dst = true then some (.appF sz b s x) else if qm6 h.appZ dst = true then some (.appZ sz b s x) else match qr6 h.appB dst with | [] => some (.app sz b s x) | av => some (.appB sz b s x av)) = some c →
          qoq P Γ w ((execOp a.eval ⟨dst, .call ⟨.builtin .append, args, argTypes⟩, type, pos, after, guard⟩).run P w) av σ' := by
        intro t tx ht htx hk hc
        rw [Option.bind_eq_some_iff] at hc; obtain ⟨el, hel, hc⟩ := hc
        rw [Option.bind_eq_some_iff] at hc; obtain ⟨sz, hsz, hc⟩ := hc
        rw [Option.bind_eq_some_iff] at hc; obtain ⟨by', hby, hc⟩ := hc
        rw [Option.bind_eq_some_iff] at hc; obtain ⟨x', hx, hc⟩ := hc
        rw [Option.bind_eq_some_iff] at hc; obtain ⟨y', hy, hc⟩ := hc
        split at hc
        · cases hc
        · rename_i hcc
          obtain ⟨c1, c2⟩ := not_or.1 hcc
          obtain ⟨c2, c3⟩ := not_or.1 c2
          have hat : argTypes.toList = t :: tx :: argTypes.toList.drop 2 := by
            have h1 : argTypes.toList[0]? = some t := by simpa using ht
            have h2 : argTypes.toList[1]? = some tx := by simpa using htx
            match hl : argTypes.toList with
            | [] => rw [hl] at h1; simp at h1
            | [q] => rw [hl] at h2; simp at h2
            | q :: q' :: r => rw [hl] at h1 h2; simp at h1 h2; simp [h1, h2]
          have hzo : ZOk P el := by
            cases hz : zT P el with
            | none => simp [hz] at c3
            | some z => obtain ⟨i, zv, q1, q2, q3, _⟩ := q1e hz; exact ⟨i, zv, q1, q2, q3⟩
          have hrun : (execOp a.eval ⟨dst, .call ⟨.builtin .append, args, argTypes⟩, type, pos, after, guard⟩).run P w =
              ((Builtin.append_ #[t, tx] type #[a.eval x, a.eval y]).run P w).andThen fun v w => .ok (.value v) w := by
            have : Builtin.append_ argTypes type #[a.eval x, a.eval y] = Builtin.append_ #[t, tx] type #[a.eval x, a.eval y] := by
              unfold Builtin.append_
              simp [ht, htx]
            simp [execOp, resolve, hmap, invoke, builtin, this]
          rw [hrun]
          split at hc
          · cases hc
            simp only [qai] at he
            rw [Option.bind_eq_some_iff] at he; obtain ⟨u, hu, he⟩ := he
            rw [Option.bind_eq_some_iff] at he; obtain ⟨v, hvv, he⟩ := he
            rw [Option.bind_eq_some_iff] at he; obtain ⟨xs, hxs, he⟩ := he
            split at he
            · rename_i es
              split at he
              · rename_i hc2
                have := q28 (P := P) (ty := type) s (qa7 hx hu hv) (qa7 hy hvv hv) (qiw hel) hk hzo hsz hby hc2.1 (by omega) hxs hc2.2.1 hc2.2.2
                split at he
                · rename_i hx0
                  cases he; rw [if_pos hx0.1, if_pos hx0.1] at this; exact this
                · rename_i hx0
                  cases he
                  by_cases hx1 : xs = []
                  · have he0 : es = [] := Classical.byContradiction fun h => hx0 ⟨hx1, h⟩
                    subst hx1; subst he0
                    rw [if_pos rfl, if_pos rfl] at this
                    simpa using this.own_empty hc2.1
                  · rw [if_neg hx1, if_neg hx1] at this; exact this
              · cases he
            · cases he
          · split at hc
            · cases hc
              simp only [qai] at he
              rw [Option.bind_eq_some_iff] at he; obtain ⟨u, hu, he⟩ := he
              rw [Option.bind_eq_some_iff] at he; obtain ⟨v, hvv, he⟩ := he
              rw [Option.bind_eq_some_iff] at he; obtain ⟨xs, hxs, he⟩ := he
              split at he
              · rename_i es
                split at he
                · rename_i hc2
                  have := q28 (P := P) (ty := type) s (qa7 hx hu hv) (qa7 hy hvv hv) (qiw hel) hk hzo hsz hby hc2.1 (by omega) hxs hc2.2.1 hc2.2.2
                  split at he
                  · cases he; rw [if_pos ‹_›, if_pos ‹_›] at this; exact this
                  · cases he; rw [if_neg ‹_›, if_neg ‹_›] at this; exact this.freeze (by simp)
                · cases he
              · cases he
            have appOk : ∀ (u v : AV) (xs : List (List AV)) (r : AV) (σ1 : qr), x'.ev e = some u → y'.ev e = some v → qbq σ v = some xs → qm4 sz by' u xs σ = some (r, σ1) →
                qoq P Γ w (((Builtin.append_ #[t, tx] type #[a.eval x, a.eval y]).run P w).andThen fun v w => .ok (.value v) w) r σ1 := by
              intro u v xs r σ1 hu hvv hxs he
              unfold qm4 at he
              split at he
              · split at he
                · rename_i hok
                  split at he
                  · rename_i rs es g' ho
                    split at he
                    · rename_i hc2
                      obtain ⟨rfl, rfl, rfl, hle, hfit⟩ := hc2
                      have := ok_app (P := P) (ty := type) s (qa7 hx hu hv) (qa7 hy hvv hv) (qiw hel) hk hzo hsz hby (by omega) (by omega) hxs hok ho hle hfit
                      split at he
                      · cases he; rw [if_pos ‹_›, if_pos ‹_›] at this; exact this
                      · cases he; rw [if_neg ‹_›, if_neg ‹_›] at this; exact this
                    · cases he
                  · cases he
                · cases he
              · rename_i es
                split at he
                · rename_i hc2
                  have := q28 (P := P) (ty := type) s (qa7 hx hu hv) (qa7 hy hvv hv) (qiw hel) hk hzo hsz hby hc2.1 (by omega) hxs hc2.2.1 hc2.2.2
                  split at he
                  · rename_i hx0
                    cases he; rw [if_pos hx0.1, if_pos hx0.1] at this; exact this
                  · rename_i hx0
                    cases he
                    by_cases hx1 : xs = []
                    · have he0 : es = [] := Classical.byContradiction fun h => hx0 ⟨hx1, h⟩
                      subst hx1; subst he0
                      rw [if_pos rfl, if_pos rfl] at this
                      simpa using this.own_empty hc2.1
                    · rw [if_neg hx1, if_neg hx1] at this; exact this
                · cases he
              · cases he
            split at hc
            · cases hc
              simp only [qai] at he
              rw [Option.bind_eq_some_iff] at he; obtain ⟨u, hu, he⟩ := he
              rw [Option.bind_eq_some_iff] at he; obtain ⟨v, hvv, he⟩ := he
              rw [Option.bind_eq_some_iff] at he; obtain ⟨xs, hxs, he⟩ := he
              rw [Option.bind_eq_some_iff] at he; obtain ⟨⟨r, σ1⟩, ha, he⟩ := he
              exact (appOk u v xs r σ1 hu hvv hxs ha).give he
            · split at hc
              · cases hc
                simp only [qai] at he
                rw [Option.bind_eq_some_iff] at he; obtain ⟨u, hu, he⟩ := he
                rw [Option.bind_eq_some_iff] at he; obtain ⟨v, hvv, he⟩ := he
                rw [Option.bind_eq_some_iff] at he; obtain ⟨xs, hxs, he⟩ := he
                exact appOk u v xs _ _ hu hvv hxs he
              · cases hc
                simp only [qai] at he
                rw [Option.bind_eq_some_iff] at he; obtain ⟨u, hu, he⟩ := he
                split at he
                · rw [Option.bind_eq_some_iff] at he; obtain ⟨v, hvv, he⟩ := he
                  rw [Option.bind_eq_some_iff] at he; obtain ⟨xs, hxs, he⟩ := he
                  exact appOk u v xs _ _ hu hvv hxs he
                · cases he
      split at hc
      · rename_i t el ht htx
        rw [Option.bind_eq_some_iff] at htx; obtain ⟨tx, h1, h2⟩ := htx
        exact fin t tx ht h1 (.inl ⟨_, h2⟩) hc
      · rename_i t ht htx
        rw [Option.bind_eq_some_iff] at htx; obtain ⟨tx, h1, h2⟩ := htx
        exact fin t tx ht h1 (.inr h2) hc
      · rename_i t kn ht htx
        rw [Option.bind_eq_some_iff] at htx; obtain ⟨tn, htn, hkn⟩ := htx
        rw [Option.bind_eq_some_iff] at hc; obtain ⟨el, hel, hc⟩ := hc
        rw [Option.bind_eq_some_iff] at hc; obtain ⟨sz, hsz, hc⟩ := hc
        rw [Option.bind_eq_some_iff] at hc; obtain ⟨by', hby, hc⟩ := hc
        rw [Option.bind_eq_some_iff] at hc; obtain ⟨z, hz, hc⟩ := hc
        rw [Option.bind_eq_some_iff] at hc; obtain ⟨x', hx, hc⟩ := hc
        rw [Option.bind_eq_some_iff] at hc; obtain ⟨y', hy, hc⟩ := hc
        split at hc
        · cases hc
        rename_i hb0
        cases hc
        have hrun : (execOp a.eval ⟨dst, .call ⟨.builtin .append, args, argTypes⟩, type, pos, after, guard⟩).run P w =
            ((Builtin.append_ #[t, tn] type #[a.eval x, a.eval y]).run P w).andThen fun v w => .ok (.value v) w := by
          have : Builtin.append_ argTypes type #[a.eval x, a.eval y] = Builtin.append_ #[t, tn] type #[a.eval x, a.eval y] := by
            unfold Builtin.append_
            simp [ht, htn]
          simp [execOp, resolve, hmap, invoke, builtin, this]
        rw [hrun]
        simp only [qai] at he
        rw [Option.bind_eq_some_iff] at he; obtain ⟨u, hu, he⟩ := he
        rw [Option.bind_eq_some_iff] at he; obtain ⟨v, hvv, he⟩ := he
        split at he
        · split at he
          · rename_i hcc
            cases he
            have e2 := qa7 hy hvv hv
            simp only [VR] at e2
            rw [e2]
            exact ok_appM (P := P) (ty := type) s (qa7 hx hu hv) (qiw hel) hkn hz hsz hby (by omega) hcc.1 hcc.2.1 hcc.2.2.1 hcc.2.2.2
          · cases he
        · cases he
      · cases hc
    · rename_i x y hargs
      have hmap := two hargs
      split at hc
      · rename_i t e1 ht htx
        rw [Option.bind_eq_some_iff] at htx; obtain ⟨tx, ht1, htx⟩ := htx
        rw [Option.bind_eq_some_iff] at hc; obtain ⟨el, hel, hc⟩ := hc
        rw [Option.bind_eq_some_iff] at hc; obtain ⟨sz, hsz, hc⟩ := hc
        rw [Option.bind_eq_some_iff] at hc; obtain ⟨x', hx, hc⟩ := hc
        rw [Option.bind_eq_some_iff] at hc; obtain ⟨y', hy, hc⟩ := hc
        split at hc
        · cases hc
        rename_i h0
        cases hc
        have hrun : (execOp a.eval ⟨dst, .call ⟨.builtin .copy, args, argTypes⟩, type, pos, after, guard⟩).run P w =
            ((Builtin.copy_ #[t, tx] type #[a.eval x, a.eval y]).run P w).andThen fun v w => .ok (.value v) w := by
          have : Builtin.copy_ argTypes type #[a.eval x, a.eval y] = Builtin.copy_ #[t, tx] type #[a.eval x, a.eval y] := by
            unfold Builtin.copy_
            simp [ht]
          simp [execOp, resolve, hmap, invoke, builtin, this]
        rw [hrun]
        simp only [qai] at he
        rw [Option.bind_eq_some_iff] at he; obtain ⟨u, hu, he⟩ := he
        rw [Option.bind_eq_some_iff] at he; obtain ⟨v, hvv, he⟩ := he
        split at he
        · cases he
        rename_i hnv
        rw [Option.bind_eq_some_iff] at he; obtain ⟨xs, hxs, he⟩ := he
        split at he
        · split at he
          · rename_i ho
            split at he
            · rename_i hcc
              obtain ⟨rfl, rfl, q1, q2⟩ := hcc
              cases he
              exact ok_copy (P := P) (ty := type) s (qa7 hx hu hv) (qa7 hy hvv hv) (qiw hel) ⟨_, htx⟩ hsz (by omega) (fun str k => hnv (by rw [k]; rfl)) hxs q2 ho q1
            · cases he
          · cases he
        · cases he
      · cases hc
    · rename_i x y hargs
      have hmap := two hargs
      rw [Option.bind_eq_some_iff] at hc; obtain ⟨x', hx, hc⟩ := hc
      rw [Option.bind_eq_some_iff] at hc; obtain ⟨y', hy, hc⟩ := hc
      cases hc
      simp only [qai] at he
      rw [Option.bind_eq_some_iff] at he; obtain ⟨u, hu, he⟩ := he
      rw [Option.bind_eq_some_iff] at he; obtain ⟨v, hvv, he⟩ := he
      have e1 := qa7 hx hu hv
      have e2 := qa7 hy hvv hv
      split at he
      · cases he
        simp only [VR] at e1 e2
        rename_i k i k' j
        refine .here s (v := .int k (if j > i then j else i)) (by simp [execOp, resolve, hmap, invoke, builtin, Builtin.max_, Builtin.max2, e1, e2]) (by simp only [VR]; rfl)
      · cases he
    · rename_i x y hargs
      have hmap := two hargs
      rw [Option.bind_eq_some_iff] at hc; obtain ⟨x', hx, hc⟩ := hc
      rw [Option.bind_eq_some_iff] at hc; obtain ⟨y', hy, hc⟩ := hc
      cases hc
      simp only [qai] at he
      rw [Option.bind_eq_some_iff] at he; obtain ⟨u, hu, he⟩ := he
      rw [Option.bind_eq_some_iff] at he; obtain ⟨v, hvv, he⟩ := he
      have e1 := qa7 hx hu hv
      have e2 := qa7 hy hvv hv
      split at he
      · cases he
        simp only [VR] at e1 e2
        rename_i k i k' j
        refine .here s (v := .int k (if j < i then j else i)) (by simp [execOp, resolve, hmap, invoke, builtin, Builtin.min_, Builtin.min2, e1, e2]) (by simp only [VR]; rfl)
      · cases he
    · cases hc
  | _ => simp [cOp] at hc
end Go.Ev
