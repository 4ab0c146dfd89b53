/- Chapter 15, plain: channels as rows; what a post and a take make of them. -/
import Derived.Test.YtfngkeegfjihlaaP
namespace Go.SF.C15
open Go.SF
set_option linter.unusedVariables false

/-! ### ids in a row -/
theorem ids_app : ∀ (t : List Int) (a b c : Int), t.length % 3 = 0 → idsT (t ++ [a, b, c]) = idsT t ++ [a]
  | [], a, b, c, _ => rfl
  | [_], _, _, _, h => by simp at h
  | [_, _], _, _, _, h => by simp at h
  | x :: y :: z :: r, a, b, c, h => by
    have := ids_app r a b c (by simp at h; omega)
    simp only [List.cons_append, idsT, this]
theorem ids_drop : ∀ (t : List Int), t.length % 3 = 0 → idsT (t.drop 3) = (idsT t).tail
  | [], _ => rfl
  | [_], h => by simp at h
  | [_, _], h => by simp at h
  | x :: y :: z :: r, _ => rfl
theorem ids_hd : ∀ (t : List Int), t.length % 3 = 0 → t ≠ [] → ∃ l, idsT t = t.getD 0 0 :: l
  | [], _, h => absurd rfl h
  | [_], h, _ => by simp at h
  | [_, _], h, _ => by simp at h
  | x :: y :: z :: r, _, _ => ⟨idsT r, rfl⟩

structure RowP (n : Int) (r : List Int) : Prop where
  pos : 1 ≤ r.length
  div : (r.length - 1) % 3 = 0
  le : r.length ≤ 49
  inc : (idsR r).Pairwise (· < ·)
  rng : ∀ i ∈ idsR r, 1 ≤ i ∧ i ≤ n
theorem row_iff {n : Int} {r : List Int} : rowOK n r = true ↔ RowP n r := by
  simp only [rowOK, Bool.and_eq_true, decide_eq_true_eq, List.all_eq_true]
  exact ⟨fun ⟨a, b, c, d, e⟩ => ⟨a, b, c, d, e⟩, fun h => ⟨h.pos, h.div, h.le, h.inc, h.rng⟩⟩
structure StP (B M O : Tab) : Prop where
  eq : B = hdsT M
  nd : (M.map hdK).Nodup
  row : ∀ r ∈ M, RowP O.length r
  cnt : ∀ i, i < O.length → (O.getD i []).getD 0 0 = cntId M ((i : Int) + 1)
theorem st_iff {B M O : Tab} : stB B M O = true ↔ StP B M O := by
  simp only [stB, Bool.and_eq_true, decide_eq_true_eq, List.all_eq_true, row_iff, List.mem_range]
  exact ⟨fun ⟨a, b, c, d⟩ => ⟨a, b, c, d⟩, fun h => ⟨h.eq, h.nd, h.row, h.cnt⟩⟩

/-! ### places -/
theorem row_mem {M : Tab} {c : Int} (h0 : 0 ≤ c) (h1 : c < M.length) : rowL M c ∈ M := by
  unfold rowL
  rw [List.getD_eq_getElem?_getD, List.getElem?_eq_getElem (by omega : c.toNat < M.length)]
  exact List.getElem_mem _
theorem hds_len (M : Tab) : (hdsT M).length = M.length := by simp [hdsT]
theorem hds_at {M : Tab} {c : Int} (h0 : 0 ≤ c) (h1 : c < M.length) : ((hdsT M).getD c.toNat []).getD 0 0 = keyF M c := by
  have : c.toNat < M.length := by omega
  simp [hdsT, keyF, rowL, List.getD_eq_getElem?_getD, this]
theorem find_at {B M O : Tab} (h : StP B M O) {c : Int} (h0 : 0 ≤ c) (h1 : c < M.length) : findK M ((B.getD c.toNat []).getD 0 0) = [rowL M c] := by
  rw [h.eq, hds_at h0 h1]
  exact findK_nd h.nd (row_mem h0 h1)
theorem key_at {B M O : Tab} (h : StP B M O) {c : Int} (h0 : 0 ≤ c) (h1 : c < M.length) : (B.getD c.toNat []).getD 0 0 = keyF M c := by
  rw [h.eq, hds_at h0 h1]
theorem cnt_at {B M O : Tab} (h : StP B M O) {c : Int} (h0 : 0 ≤ c) (h1 : c < M.length) : cntT M ((B.getD c.toNat []).getD 0 0) 3 = qLen M c := by
  unfold cntT rowK qLen
  rw [find_at h h0 h1]
  rfl
theorem qlen_of {n : Int} {M : Tab} {c : Int} (h : RowP n (rowL M c)) : 3 * qLen M c = ((rowL M c).length : Int) - 1 ∧ 0 ≤ qLen M c ∧ qLen M c ≤ 16 := by
  have h1 := h.pos; have h2 := h.div; have h3 := h.le
  unfold qLen
  omega
theorem key_inj {M : Tab} (h : (M.map hdK).Nodup) {r : List Int} (hr : r ∈ M) {c : Int} (h0 : 0 ≤ c) (h1 : c < M.length) : hdK r = keyF M c ↔ r = rowL M c :=
  ⟨fun e => nd_key h hr (row_mem h0 h1) e, fun e => by rw [e]; rfl⟩

/-! ### the loops of Post -/
theorem drop_at {α : Type} {L : List α} {i : Int} {d : α} (h0 : 0 ≤ i) (h1 : i < L.length) : L.drop i.toNat = L.getD i.toNat d :: L.drop (i + 1).toNat := by
  have h : i.toNat < L.length := by omega
  rw [show (i + 1).toNat = i.toNat + 1 by omega, List.drop_eq_getElem_cons h]
  simp [List.getD_eq_getElem?_getD, h]
theorem hd_get (r : List Int) : r.getD 0 0 = hdK r := by cases r <;> rfl
theorem any_hit {L M : Tab} {i : Int} (h0 : 0 ≤ i) (h1 : i < L.length) (h : cntT M ((L.getD i.toNat []).getD 0 0) 3 = 16) : anyF L M i = true := by
  unfold anyF
  rw [hd_get] at h
  rw [drop_at (d := []) h0 h1, List.any_cons, h]
  rfl
theorem any_step {L M : Tab} {i : Int} (h0 : 0 ≤ i) (h1 : i < L.length) (h : ¬ cntT M ((L.getD i.toNat []).getD 0 0) 3 = 16) : anyF L M i = anyF L M (i + 1) := by
  unfold anyF
  rw [hd_get] at h
  rw [drop_at (d := []) h0 h1, List.any_cons, decide_eq_false h, Bool.false_or]
theorem any_end {L M : Tab} {i : Int} (h1 : L.length ≤ i) : anyF L M i = false := by
  unfold anyF
  rw [List.drop_of_length_le (by omega)]; rfl
theorem sub_at {L M : Tab} {i : Int} (h : subB L M = true) (h0 : 0 ≤ i) (h1 : i < L.length) : 0 < (findK M ((L.getD i.toNat []).getD 0 0)).length := by
  simp only [subB, List.all_eq_true, decide_eq_true_eq] at h
  rw [hd_get]
  exact h _ (row_mem h0 h1)
theorem send_end {L M : Tab} {i id t p : Int} (h1 : L.length ≤ i) : sendT L M i id t p = M := by
  unfold sendT
  rw [List.drop_of_length_le (by omega)]; rfl
theorem send_step {L M : Tab} {i id t p : Int} (h0 : 0 ≤ i) (h1 : i < L.length) : sendT L M i id t p = sendT L (sndT M ((L.getD i.toNat []).getD 0 0) [id, t, p]) (i + 1) id t p := by
  unfold sendT
  rw [drop_at (d := []) h0 h1, List.foldl_cons, hd_get]
theorem hd_app {r cs : List Int} (h : r ≠ []) : hdK (r ++ cs) = hdK r := by cases r with | nil => exact absurd rfl h | cons => rfl
theorem find_snd {M : Tab} {x y : Int} {cs : List Int} (hM : ∀ r ∈ M, r ≠ []) (hne : y ≠ x) : findK (sndT M x cs) y = findK M y := by
  unfold findK sndT
  induction M with
  | nil => rfl
  | cons r M ih =>
    have ih := ih fun r hr => hM r (List.mem_cons_of_mem _ hr)
    simp only [List.map_cons, List.filter_cons]
    by_cases e : hdK r = x
    · rw [if_pos e, hd_app (hM r (List.mem_cons_self ..))]
      have h1 : ¬ hdK r = y := fun e' => hne (e' ▸ e)
      simp [h1, ih]
    · rw [if_neg e]; simp [ih]
theorem send_iff {L M : Tab} {i : Int} : sendB L M i = true ↔ (∀ r ∈ M, r ≠ []) ∧ ((L.drop i.toNat).map hdK).Nodup ∧ ∀ r ∈ L.drop i.toNat, 0 < (findK M (hdK r)).length ∧ cntT M (hdK r) 3 < 16 := by
  simp only [sendB, Bool.and_eq_true, decide_eq_true_eq, List.all_eq_true]
theorem send_at {L M : Tab} {i : Int} (h : sendB L M i = true) (h0 : 0 ≤ i) (h1 : i < L.length) : 0 < (findK M ((L.getD i.toNat []).getD 0 0)).length ∧ cntT M ((L.getD i.toNat []).getD 0 0) 3 < 16 := by
  obtain ⟨_, _, h3⟩ := send_iff.1 h
  rw [drop_at (d := []) h0 h1] at h3
  rw [hd_get]
  exact h3 _ (List.mem_cons_self ..)
theorem send_on {L M : Tab} {i : Int} {cs : List Int} (h : sendB L M i = true) (h0 : 0 ≤ i) (h1 : i < L.length) : sendB L (sndT M ((L.getD i.toNat []).getD 0 0) cs) (i + 1) = true := by
  obtain ⟨g1, g2, g3⟩ := send_iff.1 h
  rw [drop_at (d := []) h0 h1, List.map_cons] at g2
  rw [drop_at (d := []) h0 h1] at g3
  have g2 := List.nodup_cons.1 g2
  refine send_iff.2 ⟨fun r hr => ?_, g2.2, fun r hr => ?_⟩
  · obtain ⟨y, hy, rfl⟩ := List.mem_map.1 hr
    split
    · have := g1 y hy
      simp [this]
    · exact g1 y hy
  · have hne : hdK r ≠ (L.getD i.toNat []).getD 0 0 := by
      rw [hd_get]
      exact fun e => g2.1 (e ▸ List.mem_map_of_mem hr)
    have := g3 r (List.mem_cons_of_mem _ hr)
    unfold cntT rowK at this ⊢
    rw [find_snd g1 hne]
    exact this

/-! ### all but one -/
def othT (B : Tab) (c : Int) : Tab := B.take c.toNat ++ B.drop (c + 1).toNat
theorem oth_len {B : Tab} {c : Int} (h0 : 0 ≤ c) (h1 : c < B.length) : ((othT B c).length : Int) = B.length - 1 := by
  simp only [othT, List.length_append, List.length_take, List.length_drop]; omega
theorem oth_heads {M : Tab} {c : Int} (h0 : 0 ≤ c) (h1 : c < M.length) (hn : (M.map hdK).Nodup) : ((othT (hdsT M) c).map hdK).Nodup ∧ ∀ x, x ∈ (othT (hdsT M) c).map hdK ↔ x ∈ M.map hdK ∧ x ≠ keyF M c := by
  have e : (othT (hdsT M) c).map hdK = (M.map hdK).take c.toNat ++ (M.map hdK).drop (c + 1).toNat := by
    simp only [othT, hdsT, List.map_append, List.map_take, List.map_drop, List.map_map]
    rfl
  have hlt : c.toNat < (M.map hdK).length := by simp; omega
  have e2 : M.map hdK = (M.map hdK).take c.toNat ++ keyF M c :: (M.map hdK).drop (c + 1).toNat := by
    conv => lhs; rw [← List.take_append_drop c.toNat (M.map hdK), List.drop_eq_getElem_cons hlt]
    rw [show (c + 1).toNat = c.toNat + 1 by omega]
    congr 2
    simp only [List.getElem_map, keyF, rowL, List.getD_eq_getElem?_getD]
    rw [List.getElem?_eq_getElem (by simpa using hlt)]
    rfl
  rw [e]
  generalize (M.map hdK).take c.toNat = a at *
  generalize (M.map hdK).drop (c + 1).toNat = b at *
  rw [e2] at hn
  rw [e2]
  have h3 := List.nodup_append.1 hn
  have h4 := List.nodup_cons.1 h3.2.1
  refine ⟨List.nodup_append.2 ⟨h3.1, h4.2, fun x hx y hy => h3.2.2 x hx y (List.mem_cons_of_mem _ hy)⟩, fun x => ?_⟩
  simp only [List.mem_append, List.mem_cons]
  constructor
  · rintro (h | h)
    · exact ⟨.inl h, fun e => h3.2.2 x h _ (List.mem_cons_self ..) e⟩
    · exact ⟨.inr (.inr h), fun e => h4.1 (e ▸ h)⟩
  · rintro ⟨h | h | h, hne⟩
    · exact .inl h
    · exact absurd h hne
    · exact .inr h
theorem oth_row {M : Tab} {c : Int} (h0 : 0 ≤ c) (h1 : c < M.length) (hn : (M.map hdK).Nodup) {r : List Int} (hr : r ∈ othT (hdsT M) c) : ∃ y ∈ M, hdK y = hdK r ∧ hdK r ≠ keyF M c := by
  have := ((oth_heads h0 h1 hn).2 (hdK r)).1 (List.mem_map_of_mem hr)
  obtain ⟨y, hy, e⟩ := List.mem_map.1 this.1
  exact ⟨y, hy, e, this.2⟩
theorem oth_sub {B M O : Tab} (h : StP B M O) {c : Int} (h0 : 0 ≤ c) (h1 : c < M.length) : subB (othT B c) M = true := by
  simp only [subB, List.all_eq_true, decide_eq_true_eq]
  intro r hr
  rw [h.eq] at hr
  obtain ⟨y, hy, e, _⟩ := oth_row h0 h1 h.nd hr
  rw [← e, findK_nd h.nd hy]
  exact Nat.zero_lt_one
theorem cnt_row {M : Tab} (hn : (M.map hdK).Nodup) {y : List Int} (hy : y ∈ M) {n : Int} (hp : RowP n y) : (cntT M (hdK y) 3 = 16 ↔ y.length = 49) ∧ (cntT M (hdK y) 3 ≤ 16) := by
  unfold cntT rowK
  rw [findK_nd hn hy, List.headD_cons, show (((3 : Int).toNat : Nat) : Int) = 3 from rfl]
  have h1 := hp.pos; have h2 := hp.div; have h3 := hp.le
  omega
theorem oth_any {B M O : Tab} (h : StP B M O) {c : Int} (h0 : 0 ≤ c) (h1 : c < M.length) : anyF (othT B c) M 0 = fullB M c := by
  rw [Bool.eq_iff_iff]
  simp only [anyF, fullB, List.any_eq_true, Bool.and_eq_true, Bool.not_eq_true', decide_eq_false_iff_not, decide_eq_true_eq]
  constructor
  · rintro ⟨r, hr, hc⟩
    have hr : r ∈ othT B c := by simpa using hr
    rw [h.eq] at hr
    obtain ⟨y, hy, e, hne⟩ := oth_row h0 h1 h.nd hr
    rw [← e] at hc hne
    exact ⟨y, hy, hne, ((cnt_row h.nd hy (h.row y hy)).1).1 hc⟩
  · rintro ⟨y, hy, hne, hl⟩
    have := ((oth_heads h0 h1 h.nd).2 (hdK y)).2 ⟨List.mem_map_of_mem hy, hne⟩
    obtain ⟨r, hr, e⟩ := List.mem_map.1 this
    refine ⟨r, by rw [h.eq]; simpa using hr, ?_⟩
    rw [e]
    exact ((cnt_row h.nd hy (h.row y hy)).1).2 hl
theorem oth_send {B M O : Tab} (h : StP B M O) {c : Int} (h0 : 0 ≤ c) (h1 : c < M.length) (hf : fullB M c = false) : sendB (othT B c) M 0 = true := by
  refine send_iff.2 ⟨fun r hr e => ?_, ?_, fun r hr => ?_⟩
  · have := (h.row r hr).pos
    rw [e] at this; simp at this
  · rw [h.eq]; simpa using (oth_heads h0 h1 h.nd).1
  · have hr : r ∈ othT B c := by simpa using hr
    have hr' := hr
    rw [h.eq] at hr'
    obtain ⟨y, hy, e, hne⟩ := oth_row h0 h1 h.nd hr'
    have hc := cnt_row h.nd hy (h.row y hy)
    rw [← oth_any h h0 h1] at hf
    rw [← e]
    refine ⟨by rw [findK_nd h.nd hy]; exact Nat.zero_lt_one, ?_⟩
    have : ¬ cntT M (hdK y) 3 = 16 := by
      intro h16
      have : anyF (othT B c) M 0 = true := by
        simp only [anyF, List.any_eq_true, decide_eq_true_eq]
        exact ⟨r, by simpa using hr, by rw [← e]; exact h16⟩
      rw [hf] at this; cases this
    omega
theorem fold_snd {cs : List Int} : ∀ (L M : Tab), (∀ r ∈ M, r ≠ []) → (L.map hdK).Nodup → L.foldl (fun M r => sndT M (hdK r) cs) M = M.map fun r => if hdK r ∈ L.map hdK then r ++ cs else r
  | [], M, _, _ => by simp
  | x :: L, M, hM, hn => by
    have hn := List.nodup_cons.1 (by simpa using hn : (hdK x :: L.map hdK).Nodup)
    rw [List.foldl_cons, fold_snd L _ (fun r hr => ?_) hn.2]
    · unfold sndT
      rw [List.map_map]
      refine List.map_congr_left fun r hr => ?_
      simp only [Function.comp, List.map_cons, List.mem_cons]
      by_cases e : hdK r = hdK x
      · rw [if_pos e, hd_app (hM r hr), if_neg (by rw [e]; exact hn.1), if_pos (.inl e)]
      · rw [if_neg e]
        simp only [e, false_or]
    · obtain ⟨y, hy, rfl⟩ := List.mem_map.1 hr
      split
      · simp [hM y hy]
      · exact hM y hy
theorem oth_post {B M O : Tab} (h : StP B M O) {c id t p : Int} (h0 : 0 ≤ c) (h1 : c < M.length) : sendT (othT B c) M 0 id t p = postT M c id t p := by
  have hh := oth_heads h0 h1 h.nd
  unfold sendT postT
  rw [show (0 : Int).toNat = 0 from rfl, List.drop_zero, fold_snd _ _ (fun r hr e => ?_) (by rw [h.eq]; exact hh.1)]
  · refine List.map_congr_left fun r hr => ?_
    rw [h.eq]
    by_cases e : hdK r = keyF M c
    · rw [if_pos e, if_neg (fun hm => ((hh.2 _).1 hm).2 e)]
    · rw [if_neg e, if_pos ((hh.2 _).2 ⟨List.mem_map_of_mem hr, e⟩)]
  · have := (h.row r hr).pos
    rw [e] at this; simp at this
end Go.SF.C15
