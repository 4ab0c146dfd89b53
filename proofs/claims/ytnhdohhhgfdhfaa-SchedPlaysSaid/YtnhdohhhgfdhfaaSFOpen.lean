/- What comes in: values of flat types are rows of their kinds; slices of flat types are read-only tables. -/
import Derived.Test.YtnhdohhhgfdhfaaSFSimp
import Derived.Deep.Slices
namespace Go.SF
open Go.ChangeShapes Go.Deep
set_option linter.unusedVariables false
set_option linter.unusedSimpArgs false

/-- A cell within its kind. -/
def fullC : CK → Int → Prop
  | .i k, n => kmin k ≤ n ∧ n ≤ kmax k
  | .b, n => n = 0 ∨ n = 1
  | .cd _, n => 0 ≤ n
def fullRow : List CK → List Int → Prop
  | [], [] => True
  | k :: ks, n :: ns => fullC k n ∧ fullRow ks ns
  | _, _ => False
theorem fullC.ok {k : CK} {n : Int} (h : fullC k n) : okCell k n := by
  cases k with
  | i k => exact fun _ => h
  | b => exact h
  | cd k => exact h
theorem fullRow.ok : ∀ {ks : List CK} {r : List Int}, fullRow ks r → okRow ks r
  | [], [], _ => trivial
  | k :: ks, n :: ns, h => ⟨h.1.ok, fullRow.ok h.2⟩
  | [], _ :: _, h => h.elim
  | _ :: _, [], h => h.elim
theorem fullRow.len : ∀ {ks : List CK} {r : List Int}, fullRow ks r → r.length = ks.length
  | [], [], _ => rfl
  | k :: ks, n :: ns, h => by simp [fullRow.len h.2]
  | [], _ :: _, h => h.elim
  | _ :: _, [], h => h.elim
theorem fullRow.app : ∀ {ks ls : List CK} {r s : List Int}, fullRow ks r → fullRow ls s → fullRow (ks ++ ls) (r ++ s)
  | [], _, [], _, _, h => h
  | k :: ks, _, n :: ns, _, h, g => ⟨h.1, fullRow.app h.2 g⟩
  | [], _, _ :: _, _, h, _ => h.elim
  | _ :: _, _, [], _, h, _ => h.elim
theorem rowVals_app : ∀ {ks ls : List CK} {r s : List Int}, r.length = ks.length → rowVals (ks ++ ls) (r ++ s) = rowVals ks r ++ rowVals ls s
  | [], _, [], _, _ => rfl
  | k :: ks, _, n :: ns, _, h => by simp [rowVals, rowVals_app (ks := ks) (r := ns) (by simpa using h)]
  | [], _, _ :: _, _, h => by simp at h
  | _ :: _, _, [], _, h => by simp at h
theorem mapM_all {α β : Type} {f : α → Option β} : ∀ {l : List α} {r : List β}, l.mapM f = some r → ∀ x ∈ l, ∃ y, f x = some y
  | [], r, _, x, hx => by cases hx
  | a :: l, r, h, x, hx => by
    rw [List.mapM_cons] at h
    simp only [Option.bind_eq_bind, Option.bind_eq_some_iff] at h
    obtain ⟨y, hy, ys, hys, _⟩ := h
    rcases List.mem_cons.1 hx with rfl | hx
    · exact ⟨y, hy⟩
    · exact mapM_all hys x hx

section
variable {H : Type} {enc : TypeId × Value → H} {P : Program} {w : World} {base : Nat} {spare : Nat → Bool} {held : Bool}

theorem flat_cells {d : Nat} {t : TypeId} {ks : List CK} (h : flat P d t = some ks) : P.cellsOf t = ks.length := by
  cases d with
  | zero => cases h
  | succ d =>
    simp only [flat] at h
    split at h
    · split at h
      · rename_i hs
        simp at h; subst h
        unfold tySize at hs
        unfold Program.cellsOf
        rw [hs]; rfl
      · cases h
    · cases h

/-- Fields that lie side by side. -/
theorem fields_flat {d fuel : Nat} (ih : ∀ (t : TypeId) (ks : List CK) (cs : List Value) (x : DataW H × List MemPlace), flat P d t = some ks → DataW.trod enc P w base spare held fuel t cs = some x → ∃ row, fullRow ks row ∧ cs = rowVals ks row) (cs : List Value) :
    ∀ (fs : List Field) (off : Nat) (ks : List CK), flatF (flat P d) off fs = some ks → (∀ f ∈ fs, ∃ x, DataW.trod enc P w base spare held fuel f.type ((cs.drop f.offset).take (P.cellsOf f.type)) = some x) → cs.length = off + ks.length →
      ∃ row, fullRow ks row ∧ cs.drop off = rowVals ks row
  | [], off, ks, h, _, hl => by
    simp [flatF] at h; subst h
    exact ⟨[], trivial, by rw [List.drop_of_length_le (by simp at hl; omega)]; rfl⟩
  | f :: fs, off, ks, h, hx, hl => by
    simp only [flatF] at h
    split at h
    · cases h
    · rename_i hn
      have ho : f.offset = off := by
        simp only [Bool.or_eq_true, decide_eq_true_eq, not_or, Decidable.not_not] at hn
        exact hn.2
      split at h
      · cases h
      · rename_i k1 hk
        simp only [Option.map_eq_some_iff] at h
        obtain ⟨k2, hk2, rfl⟩ := h
        obtain ⟨x, hx1⟩ := hx f (List.mem_cons_self ..)
        obtain ⟨r1, g1, e1⟩ := ih _ _ _ _ hk hx1
        obtain ⟨r2, g2, e2⟩ := fields_flat ih cs fs (off + k1.length) k2 hk2 (fun g hg => hx g (List.mem_cons_of_mem _ hg)) (by simp at hl; omega)
        refine ⟨r1 ++ r2, g1.app g2, ?_⟩
        rw [rowVals_app g1.len, ← e1, ← e2, ho, flat_cells hk, ← List.drop_drop, List.take_append_drop]

/-- Elements that lie side by side. -/
theorem elems_flat {fuel : Nat} {e : TypeId} {ks : List CK} (ih : ∀ (cs : List Value) (x : DataW H × List MemPlace), DataW.trod enc P w base spare held fuel e cs = some x → ∃ row, fullRow ks row ∧ cs = rowVals ks row) (hk : P.cellsOf e = ks.length) (cs : List Value) :
    ∀ (n : Nat), (∀ i < n, ∃ x, DataW.trod enc P w base spare held fuel e ((cs.drop (i * P.cellsOf e)).take (P.cellsOf e)) = some x) →
      ∃ row, fullRow (List.replicate n ks).flatten row ∧ cs.take (n * ks.length) = rowVals (List.replicate n ks).flatten row
  | 0, _ => ⟨[], trivial, by simp [rowVals]⟩
  | n + 1, hx => by
    obtain ⟨r1, g1, e1⟩ := elems_flat ih hk cs n (fun i hi => hx i (by omega))
    obtain ⟨x, hx1⟩ := hx n (by omega)
    obtain ⟨r2, g2, e2⟩ := ih _ _ hx1
    have e : (List.replicate (n + 1) ks).flatten = (List.replicate n ks).flatten ++ ks := by rw [List.replicate_succ', List.flatten_append]; simp
    rw [e]
    refine ⟨r1 ++ r2, g1.app g2, ?_⟩
    rw [rowVals_app g1.len, ← e1, ← e2, hk, Nat.succ_mul, List.take_add]

theorem flat_trod : ∀ (d fuel : Nat) (t : TypeId) (ks : List CK) (cs : List Value) (x : DataW H × List MemPlace), flat P d t = some ks → DataW.trod enc P w base spare held fuel t cs = some x → ∃ row, fullRow ks row ∧ cs = rowVals ks row
  | 0, _, _, _, _, _, h, _ => by cases h
  | _ + 1, 0, _, _, _, _, _, h => by simp [DataW.trod] at h
  | d + 1, fuel + 1, t, ks, cs, x, h, hx => by
    have hsz := flat_cells h
    simp only [flat] at h
    split at h
    case h_2 => cases h
    rename_i ks' hk
    have h : ks' = ks := by
      split at h
      · simpa using h
      · cases h
    subst h
    split at hk
    · rename_i hu
      simp at hk; subst hk
      simp only [DataW.trod, hu] at hx
      clear hsz
      split at hx <;> simp_all
      rename_i b
      cases b
      · exact ⟨[0], ⟨.inl rfl, trivial⟩, rfl⟩
      · exact ⟨[1], ⟨.inr rfl, trivial⟩, rfl⟩
    · rename_i k hu
      simp at hk; subst hk
      simp only [DataW.trod, hu] at hx
      clear hsz
      split at hx <;> simp_all
      rename_i n _
      have hw := hx.1.2
      refine ⟨[n], ⟨?_, trivial⟩, rfl⟩
      simp only [Lit.wf, Bool.and_eq_true, decide_eq_true_eq] at hw
      simp only [fullC]
      rename_i k' _ _
      have e1 : ∀ k : IntKind, k.min = kmin k := by intro k; cases k <;> rfl
      have e2 : ∀ k : IntKind, k.max = kmax k := by intro k; cases k <;> rfl
      rw [e1, e2] at hw
      exact hw
    · rename_i n e hu
      simp only [Option.map_eq_some_iff] at hk
      obtain ⟨k1, hk1, rfl⟩ := hk
      simp only [DataW.trod, hu] at hx
      split at hx
      · rename_i hl
        simp only [Option.map_eq_some_iff] at hx
        obtain ⟨xs, hxs, _⟩ := hx
        obtain ⟨row, g, er⟩ := elems_flat (ks := k1) (fun cs x hx => flat_trod d fuel e k1 cs x hk1 hx) (flat_cells hk1) cs n (fun i hi => mapM_all hxs i (List.mem_range.2 hi))
        refine ⟨row, g, ?_⟩
        rw [← er, List.take_of_length_le]
        rw [hl, hsz]; simp
      · cases hx
    · rename_i fs hu
      split at hk
      · cases hk
      · simp only [DataW.trod, hu] at hx
        split at hx
        · rename_i hl
          simp only [Option.map_eq_some_iff] at hx
          obtain ⟨xs, hxs, _⟩ := hx
          obtain ⟨row, g, er⟩ := fields_flat (fun t ks cs x h1 h2 => flat_trod d fuel t ks cs x h1 h2) cs fs.toList 0 _ hk (fun f hf => mapM_all hxs f hf) (by rw [hl, hsz]; simp)
          exact ⟨row, g, by simpa using er⟩
        · cases hx
    · cases hk

/-- A value of a flat type. -/
theorem open_flat {t : TypeId} {ks : List CK} {v : Value} {d : DataW H} {p : List MemPlace} (hf : flat P 5 t = some ks) (h : DataW.Trod enc P w base spare held t v d p) : ∃ row, fullRow ks row ∧ v.cells.toList = rowVals ks row := by
  obtain ⟨fuel, h⟩ := h
  exact flat_trod 5 fuel t ks _ _ hf h

theorem add_add {a : Addr} (h : a.spot = none) (n m : Nat) : (a.add n).add m = a.add (n + m) := by
  unfold Addr.add
  by_cases hn : n = 0
  · subst hn; simp
  · by_cases hm : m = 0
    · subst hm; simp
    · rw [if_neg hn, if_neg hm, if_neg (by omega)]; simp [Nat.add_assoc]
theorem rows_of {a : Addr} {e : TypeId} {ks : List CK} (hs : a.spot = none) (hc : P.cellsOf e = ks.length) :
    ∀ (n : Nat), (∀ i < n, ∃ cs row, w.cells? base (a.add (i * P.cellsOf e)) (P.cellsOf e) = some cs ∧ fullRow ks row ∧ cs = rowVals ks row) →
      ∃ A : Tab, A.length = n ∧ (∀ row ∈ A, fullRow ks row) ∧ ∀ (i : Nat) (x : Value), (A.flatMap (rowVals ks))[i]? = some x → w.cell? (a.add i) = some x
  | 0, _ => ⟨[], rfl, by simp, by simp⟩
  | n + 1, h => by
    obtain ⟨A, h1, h2, h3⟩ := rows_of hs hc n (fun i hi => h i (by omega))
    obtain ⟨cs, row, g1, g2, rfl⟩ := h n (by omega)
    have hl : (A.flatMap (rowVals ks)).length = n * ks.length := by
      rw [← h1]
      clear h1 h3 g1
      induction A with
      | nil => simp
      | cons r A ih => simp [ih (fun r hr => h2 r (List.mem_cons_of_mem _ hr)), rowVals_len (h2 r (List.mem_cons_self ..)).ok, Nat.succ_mul, Nat.add_comm]
    refine ⟨A ++ [row], by simp [h1], ?_, fun i x hx => ?_⟩
    · intro r hr
      rcases List.mem_append.1 hr with hr | hr
      · exact h2 r hr
      · rw [List.mem_singleton.1 hr]; exact g2
    · rw [List.flatMap_append] at hx
      by_cases hi : i < n * ks.length
      · rw [List.getElem?_append_left (by omega)] at hx
        exact h3 i x hx
      · rw [List.getElem?_append_right (by omega)] at hx
        simp only [List.flatMap_cons, List.flatMap_nil, List.append_nil] at hx
        have hlt : i - (A.flatMap (rowVals ks)).length < (rowVals ks row).length := (List.getElem?_eq_some_iff.1 hx).1
        obtain ⟨_, hlen, hget⟩ := World.cells?_some g1
        have := hget (i - n * ks.length) (by rw [hl] at hlt; omega)
        rw [add_add hs, hc, show n * ks.length + (i - n * ks.length) = i by omega] at this
        rw [this, ← hl]
        exact hx
/-- A slice of a flat type. -/
theorem open_rows {t e : TypeId} {ks : List CK} {v : Value} {d : DataW H} {p : List MemPlace} (ht : P.underlying t = some (.slice e)) (hf : flat P 5 e = some ks) (h : DataW.Trod enc P w base spare held t v d p) {r : Reach} {b0 : Nat} (hw : Value.okWide P w r b0 t v) :
    v = .slice none 0 0 ∨ ∃ (a : Addr) (len cap : Nat) (A : Tab), v = .slice (some a) len cap ∧ a.spot = none ∧ a.block < w.heap.size ∧ A.length = len ∧ len ≤ cap ∧ (∀ row ∈ A, fullRow ks row) ∧
      ∀ (i : Nat) (x : Value), (A.flatMap (rowVals ks))[i]? = some x → w.cell? (a.add i) = some x := by
  have hna : ∀ cs, v ≠ .agg cs := by
    rintro cs rfl
    simp [Value.okWide, ht, Cell.okWide, Cell.ok] at hw
  obtain ⟨fuel, h⟩ := h
  rcases open_slice ht h with ⟨hv, _⟩ | ⟨a, len, cap, m, n, D, Pl, hv, hb, hl, hm, hmm, _, hx⟩
  · left
    cases v <;> simp [Value.cells] at hv hna
    all_goals simp_all
  · right
    have hv : v = .slice (some a) len cap := by
      cases v <;> simp [Value.cells] at hv hna
      all_goals simp_all
    subst hv
    simp only [Value.okWide, ht, Cell.okWide, Cell.ok] at hw
    obtain ⟨h1, h2, h3, h4, row, cells, h5, h6⟩ := hw
    have hc := flat_cells hf
    obtain ⟨A, g1, g2, g3⟩ := rows_of (P := P) (w := w) (base := base) (e := e) (ks := ks) h4 hc len (fun i hi => by
      obtain ⟨cs, c1, c2⟩ := hx i (by rw [hmm]; split <;> omega)
      obtain ⟨row, r1, r2⟩ := flat_trod 5 _ e ks cs _ hf c2
      exact ⟨cs, row, c1, r1, r2⟩)
    refine ⟨a, len, cap, A, rfl, h4, ?_, g1, hl, g2, g3⟩
    unfold World.shape? at h5
    split at h5
    · rename_i hh
      exact (Array.getElem?_eq_some_iff.1 hh).1
    · cases h5
/-- A value of one cell; a value of many. -/
theorem flat_cell {k : CK} {v : Value} {row : List Int} (h : v.cells.toList = rowVals [k] row) (hr : fullRow [k] row) {t : TypeId} {r : Reach} {b0 : Nat} (ht : (∃ i, P.underlying t = some (.int i)) ∨ P.underlying t = some .bool) (hw : Value.okWide P w r b0 t v) :
    ∃ n, row = [n] ∧ v = ckVal k n := by
  match row, hr with
  | [n], hr =>
    refine ⟨n, rfl, ?_⟩
    have hna : ∀ cs, v ≠ .agg cs := by
      rintro cs rfl
      rcases ht with ⟨i, ht⟩ | ht <;> simp [Value.okWide, ht, Cell.okWide, Cell.ok] at hw
    simp only [rowVals] at h
    cases v <;> simp [Value.cells] at h hna
    all_goals simp_all
end
section
variable {Φ : Sig} {ρ : Env} {μ : List Loc} {w : World}
/-- All that is there is only read. -/
theorem mrel_exts {o : List AObj} (hlen : μ.length = o.length) (h : ∀ (i : Nat) (x : AObj) (l : Loc), o[i]? = some x → μ[i]? = some l → ObjOK Φ ρ μ w l x ∧ x.excl = false ∧ ∀ b ∈ l.own, b < w.heap.size) :
    MRel Φ ρ μ ⟨w, o.length⟩ ⟨o, [], 1000⟩ w := by
  constructor
  · exact hlen
  · exact Nat.le_refl _
  · intro i j oi oj li lj b hi hj he _ hli _ _ _
    rw [(h i oi li hi hli).2.1] at he; cases he
  · intro i x l hx hl; exact (h i x l hx hl).1
  · intro i x l hx _ hl; exact (h i x l hx hl).2.2
  · intro b _ _; rfl
  · intro i l b hi hl
    have := (List.getElem?_eq_some_iff.1 hl).1
    simp only at hi; omega
  · intro i j x li lj b hi; cases hi
  · exact Nat.le_refl _
  · exact ⟨rfl, rfl, rfl⟩
/-- A slice of a flat type that comes in: where it lies, and its rows. -/
structure In (w : World) (ks : List CK) (v : Value) (l : Loc) (T : Tab) : Prop where
  val : v = vsVal l 0 T.length l.cap
  cap : T.length ≤ l.cap
  nl : l.nl = true → l.cap = 0
  lt : ∀ b ∈ l.own, b < w.heap.size
  str : l.str = ks.length
  own : T ≠ [] → l.own = [l.blk]
  rows : ∀ row ∈ T, fullRow ks row
  cells : ∀ (i : Nat) (x : Value), (T.flatMap (rowVals ks))[i]? = some x → w.cell? ⟨l.blk, l.base + i, none⟩ = some x
theorem in_nil {ks : List CK} : In w ks (.slice none 0 0) (nilLoc ks) [] :=
  ⟨by simp [vsVal, nilLoc], Nat.zero_le _, fun _ => rfl, by simp [nilLoc], rfl, by simp, by simp, by simp⟩
theorem in_some {a : Addr} {len cap : Nat} {ks : List CK} {T : Tab} (hs : a.spot = none) (hb : a.block < w.heap.size) (hl : T.length = len) (hc : len ≤ cap) (hr : ∀ row ∈ T, fullRow ks row)
    (h : ∀ (i : Nat) (x : Value), (T.flatMap (rowVals ks))[i]? = some x → w.cell? (a.add i) = some x) : In w ks (.slice (some a) len cap) ⟨a.block, a.off, ks.length, cap, false, [a.block]⟩ T := by
  refine ⟨?_, by simpa [hl] using hc, by simp, by simpa using hb, rfl, fun _ => rfl, hr, fun i x hx => ?_⟩
  · have e : (⟨a.block, a.off, none⟩ : Addr) = a := by cases a; simp_all
    simp [vsVal, hl, e]
  · have := h i x hx
    rw [add_eq a hs] at this
    exact this
/-- It opens. -/
theorem open_in {H : Type} {enc : TypeId × Value → H} {P : Program} {base : Nat} {spare : Nat → Bool} {held : Bool} {t e : TypeId} {ks : List CK} {v : Value} {d : DataW H} {p : List MemPlace}
    (ht : P.underlying t = some (.slice e)) (hf : flat P 5 e = some ks) (h : DataW.Trod enc P w base spare held t v d p) {r : Reach} {b0 : Nat} (hw : Value.okWide P w r b0 t v) : ∃ l T, In w ks v l T := by
  rcases open_rows ht hf h hw with rfl | ⟨a, len, cap, T, rfl, hs, hb, hl, hc, hr, hx⟩
  · exact ⟨_, _, in_nil⟩
  · exact ⟨_, _, in_some hs hb hl hc hr hx⟩
theorem In.den {ks : List CK} {v : Value} {l : Loc} {T : Tab} (h : In w ks v l T) {id : Nat} {A : SL} (hl : μ[id]? = some l) (hA : A.ev Φ ρ = T) : den Φ ρ μ (.cv (.vs id (.c 0) (.len A) none)) = some v := by
  have hlen : (SI.len A).ev Φ ρ = (T.length : Int) := by rw [ev_len, hA]
  have hc := h.cap
  have := den_vs_mk (Φ := Φ) (ρ := ρ) (cap := none) hl (lo := .c 0) (len := .len A) (by simp) (by rw [hlen]; omega) (by rw [hlen]; simp [vcap]; omega) (by simp [vcap]) h.nl
  simp only [SF.den, this, hlen, vcap, ev_c]
  rw [h.val]
  simp
theorem In.obj {ks : List CK} {v : Value} {l : Loc} {T : Tab} (h : In w ks v l T) {A : SL} (hA : A.ev Φ ρ = T) : ObjOK Φ ρ μ w l (.ext A ks) ∧ (AObj.ext A ks).excl = false ∧ ∀ b ∈ l.own, b < w.heap.size := by
  subst hA
  exact ⟨⟨h.str, h.own, fun row hr => (h.rows row hr).ok, h.cells⟩, rfl, h.lt⟩
/-- Slices that come in, all of them. -/
inductive Ins (Φ : Sig) (ρ : Env) (w : World) : List AObj → List Loc → Prop where
  | nil : Ins Φ ρ w [] []
  | cons {ks : List CK} {v : Value} {l : Loc} {T : Tab} {A : SL} {os : List AObj} {ls : List Loc} : In w ks v l T → A.ev Φ ρ = T → Ins Φ ρ w os ls → Ins Φ ρ w (.ext A ks :: os) (l :: ls)
theorem ins_ok {os : List AObj} {ls : List Loc} (h : Ins Φ ρ w os ls) : ls.length = os.length ∧ ∀ (i : Nat) (x : AObj) (l : Loc), os[i]? = some x → ls[i]? = some l → ObjOK Φ ρ μ w l x ∧ x.excl = false ∧ ∀ b ∈ l.own, b < w.heap.size := by
  induction h with
  | nil => exact ⟨rfl, by simp⟩
  | cons h1 h2 h3 ih =>
    refine ⟨by simp [ih.1], fun i x l hx hl => ?_⟩
    cases i with
    | zero => simp at hx hl; subst hx; subst hl; exact h1.obj h2
    | succ i => exact ih.2 i x l (by simpa using hx) (by simpa using hl)
theorem mrel_ins {os : List AObj} {ls : List Loc} (h : Ins Φ ρ w os ls) : MRel Φ ρ ls ⟨w, os.length⟩ ⟨os, [], 1000⟩ w := mrel_exts (ins_ok (μ := ls) h).1 (ins_ok h).2
theorem DenAll.nil : DenAll Φ ρ μ [] [] := ⟨rfl, by simp⟩
theorem DenAll.cons {v : AV} {vs : List AV} {x : Value} {xs : List Value} (h : SF.den Φ ρ μ v = some x) (h' : DenAll Φ ρ μ vs xs) : DenAll Φ ρ μ (v :: vs) (x :: xs) := by
  refine ⟨by simp [h'.1], fun i a b ha hb => ?_⟩
  cases i with
  | zero => simp at ha hb; subst ha; subst hb; exact h
  | succ i => exact h'.2 i a b (by simpa using ha) (by simpa using hb)
theorem holds_list {pc : List SB} (h : pc.all (fun x => x.ev Φ ρ) = true) : holds Φ ρ pc := fun c hc => List.all_eq_true.1 h c hc
end
end Go.SF
