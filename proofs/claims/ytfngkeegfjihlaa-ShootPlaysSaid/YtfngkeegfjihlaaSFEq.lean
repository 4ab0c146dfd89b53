/- Two structs, or two arrays, of numbers and bools are equal just if their cells are. -/
import Derived.Test.YtfngkeegfjihlaaSFOps1
import Derived.ChangeKeysEq
namespace Go.SF
set_option linter.unusedVariables false
set_option linter.unusedSimpArgs false

def eqL : List Value → List Value → Bool
  | [], [] => true
  | .int _ a :: r, .int _ b :: s => decide (a = b) && eqL r s
  | .bool a :: r, .bool b :: s => (a == b) && eqL r s
  | _, _ => false

def fitsV : List CK → List Value → Bool
  | [], [] => true
  | .i k :: ks, .int l _ :: vs => decide (k = l) && fitsV ks vs
  | .b :: ks, .bool _ :: vs => fitsV ks vs
  | _, _ => false

theorem fitsV_length : ∀ {ks : List CK} {vs : List Value}, fitsV ks vs = true → vs.length = ks.length
  | [], [], _ => rfl
  | [], v :: vs, h => by simp [fitsV] at h
  | .i k :: ks, [], h => by simp [fitsV] at h
  | .b :: ks, [], h => by simp [fitsV] at h
  | .i k :: ks, v :: vs, h => by cases v <;> simp [fitsV] at h; simp [fitsV_length h.2]
  | .b :: ks, v :: vs, h => by cases v <;> simp [fitsV] at h; simp [fitsV_length h]

theorem fitsV_append : ∀ {k1 k2 : List CK} {vs : List Value}, fitsV (k1 ++ k2) vs = true → fitsV k1 (vs.take k1.length) = true ∧ fitsV k2 (vs.drop k1.length) = true
  | [], k2, vs, h => by simpa [fitsV] using h
  | .i k :: k1, k2, [], h => by simp [fitsV] at h
  | .b :: k1, k2, [], h => by simp [fitsV] at h
  | .i k :: k1, k2, v :: vs, h => by
    cases v <;> simp [fitsV] at h
    have := fitsV_append h.2
    simp [fitsV, h.1, this]
  | .b :: k1, k2, v :: vs, h => by
    cases v <;> simp [fitsV] at h
    have := fitsV_append h
    simp [fitsV, this]

theorem fitsV_b {xs : List Value} (h : fitsV [.b] xs = true) : ∃ b, xs = [.bool b] := by
  have hl := fitsV_length h
  match xs, hl with
  | [x], _ => cases x <;> simp [fitsV] at h; exact ⟨_, rfl⟩
theorem fitsV_i {k : IntKind} {xs : List Value} (h : fitsV [.i k] xs = true) : ∃ n, xs = [.int k n] := by
  have hl := fitsV_length h
  match xs, hl with
  | [x], _ => cases x <;> simp [fitsV] at h; subst h; exact ⟨_, rfl⟩

theorem eqL_append : ∀ {x1 y1 x2 y2 : List Value}, x1.length = y1.length → eqL (x1 ++ x2) (y1 ++ y2) = (eqL x1 y1 && eqL x2 y2)
  | [], [], x2, y2, _ => by simp [eqL]
  | [], y :: y1, _, _, h => by simp at h
  | x :: x1, [], _, _, h => by simp at h
  | x :: x1, y :: y1, x2, y2, h => by
    have ih := @eqL_append x1 y1 x2 y2 (by simpa using h)
    cases x <;> cases y <;> simp [eqL, ih, Bool.and_assoc]

section
variable {Φ : Sig} {ρ : Env} {μ : List Loc} {P : Program}

theorem eqCells_ok : ∀ {cs ds : List CV} {e : SB} {xs ys : List Value}, eqCells cs ds = some e → denL Φ ρ μ cs = some xs → denL Φ ρ μ ds = some ys → e.ev Φ ρ = eqL xs ys
  | [], [], e, xs, ys, h, hx, hy => by simp [eqCells, denL] at h hx hy; subst h hx hy; simp [eqL]
  | .i k a :: r, .i l b :: s, e, xs, ys, h, hx, hy => by
    simp only [eqCells] at h
    split at h
    · simp only [Option.map_eq_some_iff] at h
      obtain ⟨e', he, rfl⟩ := h
      simp only [denL, denC] at hx hy
      cases h1 : denL Φ ρ μ r with
      | none => rw [h1] at hx; cases hx
      | some us =>
        cases h2 : denL Φ ρ μ s with
        | none => rw [h2] at hy; cases hy
        | some vs =>
          rw [h1] at hx; rw [h2] at hy; simp at hx hy; subst hx hy
          simp [eqL, eqCells_ok he h1 h2]
    · cases h
  | .b a :: r, .b b :: s, e, xs, ys, h, hx, hy => by
    simp only [eqCells, Option.map_eq_some_iff] at h
    obtain ⟨e', he, rfl⟩ := h
    simp only [denL, denC] at hx hy
    cases h1 : denL Φ ρ μ r with
    | none => rw [h1] at hx; cases hx
    | some us =>
      cases h2 : denL Φ ρ μ s with
      | none => rw [h2] at hy; cases hy
      | some vs =>
        rw [h1] at hx; rw [h2] at hy; simp at hx hy; subst hx hy
        simp [eqL, eqCells_ok he h1 h2]
  | [], d :: ds, e, xs, ys, h, _, _ => by simp [eqCells] at h
  | c :: cs, [], e, xs, ys, h, _, _ => by cases c <;> simp [eqCells] at h
  | .i _ _ :: _, .b _ :: _, _, _, _, h, _, _ => by simp [eqCells] at h
  | .i _ _ :: _, .s _ :: _, _, _, _, h, _, _ => by simp [eqCells] at h
  | .i _ _ :: _, .p _ :: _, _, _, _, h, _, _ => by simp [eqCells] at h
  | .i _ _ :: _, .sl _ _ _ :: _, _, _, _, h, _, _ => by simp [eqCells] at h
  | .i _ _ :: _, .m _ :: _, _, _, _, h, _, _ => by simp [eqCells] at h
  | .i _ _ :: _, .cd _ _ :: _, _, _, _, h, _, _ => by simp [eqCells] at h
  | .i _ _ :: _, .fn _ _ :: _, _, _, _, h, _, _ => by simp [eqCells] at h
  | .i _ _ :: _, .nilfn :: _, _, _, _, h, _, _ => by simp [eqCells] at h
  | .b _ :: _, .i _ _ :: _, _, _, _, h, _, _ => by simp [eqCells] at h
  | .b _ :: _, .s _ :: _, _, _, _, h, _, _ => by simp [eqCells] at h
  | .b _ :: _, .p _ :: _, _, _, _, h, _, _ => by simp [eqCells] at h
  | .b _ :: _, .sl _ _ _ :: _, _, _, _, h, _, _ => by simp [eqCells] at h
  | .b _ :: _, .m _ :: _, _, _, _, h, _, _ => by simp [eqCells] at h
  | .b _ :: _, .cd _ _ :: _, _, _, _, h, _, _ => by simp [eqCells] at h
  | .b _ :: _, .fn _ _ :: _, _, _, _, h, _, _ => by simp [eqCells] at h
  | .b _ :: _, .nilfn :: _, _, _, _, h, _, _ => by simp [eqCells] at h
  | .s _ :: _, d :: _, _, _, _, h, _, _ => by simp [eqCells] at h
  | .p _ :: _, d :: _, _, _, _, h, _, _ => by simp [eqCells] at h
  | .sl _ _ _ :: _, d :: _, _, _, _, h, _, _ => by simp [eqCells] at h
  | .m _ :: _, d :: _, _, _, _, h, _, _ => by simp [eqCells] at h
  | .cd _ _ :: _, d :: _, _, _, _, h, _, _ => by simp [eqCells] at h
  | .fn _ _ :: _, d :: _, _, _, _, h, _, _ => by simp [eqCells] at h
  | .nilfn :: _, d :: _, _, _, _, h, _, _ => by simp [eqCells] at h

theorem fitsK_ok : ∀ {ks : List CK} {cs : List CV} {xs : List Value}, fitsK ks cs = true → denL Φ ρ μ cs = some xs → fitsV ks xs = true
  | [], [], xs, _, h => by simp [denL] at h; subst h; rfl
  | [], c :: cs, _, h, _ => by simp [fitsK] at h
  | k :: ks, [], _, h, _ => by cases k <;> simp [fitsK] at h
  | .i k :: ks, c :: cs, xs, h, hx => by
    cases c <;> simp [fitsK] at h
    simp only [denL, denC] at hx
    cases h1 : denL Φ ρ μ cs with
    | none => rw [h1] at hx; cases hx
    | some us => rw [h1] at hx; simp at hx; subst hx; simp [fitsV, h.1, fitsK_ok h.2 h1]
  | .b :: ks, c :: cs, xs, h, hx => by
    cases c <;> simp [fitsK] at h
    simp only [denL, denC] at hx
    cases h1 : denL Φ ρ μ cs with
    | none => rw [h1] at hx; cases hx
    | some us => rw [h1] at hx; simp at hx; subst hx; simp [fitsV, fitsK_ok h h1]

/-- The value of a type, out of its cells. -/
def vOf (P : Program) (t : TypeId) (xs : List Value) : Value :=
  match tyAgg P t with
  | some true => .agg xs.toArray
  | _ => xs.headD undef

theorem run_isAgg' {t : TypeId} {b : Bool} (h : tyAgg P t = some b) (w : World) : (isAgg t).run P w = .ok b w := by
  unfold tyAgg at h
  simp only [Option.map_eq_some_iff] at h
  obtain ⟨d, hd, hb⟩ := h
  simp only [isAgg, Sem.run_bind, run_underlying hd, Result.andThen_ok]
  cases d <;> simp at hb <;> subst hb <;> rfl

theorem run_sizeOf' {t : TypeId} {n : Nat} (h : tySize P t = some n) (w : World) : (sizeOf t).run P w = .ok n w := by
  unfold tySize at h
  simp only [Option.map_eq_some_iff] at h
  obtain ⟨i, hi, rfl⟩ := h
  rw [run_sizeOf w hi]
  simp [Program.cellsOf, hi]

theorem cellsOf_eq {t : TypeId} {n : Nat} (h : tySize P t = some n) : P.cellsOf t = n := by
  unfold tySize at h
  simp only [Option.map_eq_some_iff] at h
  obtain ⟨i, hi, rfl⟩ := h
  simp [Program.cellsOf, hi]

theorem run_part_seg {t : TypeId} {n off : Nat} {b : Bool} (hs : tySize P t = some n) (ha : tyAgg P t = some b) {cs : List Value} (hl : off + n ≤ cs.length) (hn : b = false → n = 1) (w : World) :
    (part t cs.toArray off).run P w = .ok (vOf P t ((cs.drop off).take n)) w := by
  simp only [part, Sem.run_bind, run_isAgg' ha, Result.andThen_ok, vOf, ha]
  cases b with
  | true =>
    simp only [if_true, Sem.run_bind, run_sizeOf' hs, Result.andThen_ok, Sem.run_pure]
    congr 2
    apply Array.ext'
    simp [List.extract_eq_take_drop]
  | false =>
    have hn1 := hn rfl
    subst hn1
    simp only [Bool.false_eq_true, if_false]
    have hlt : off < cs.length := by omega
    have h1 : cs.toArray[off]? = some cs[off] := by simp [hlt]
    have h2 : (cs.drop off).take 1 = [cs[off]] := by rw [List.drop_eq_getElem_cons hlt]; rfl
    rw [h1, h2]
    rfl

theorem flat_size : ∀ {d : Nat} {t : TypeId} {ks : List CK}, flat P d t = some ks → tySize P t = some ks.length
  | 0, t, ks, h => by simp [flat] at h
  | d + 1, t, ks, h => by
    simp only [flat] at h
    split at h
    · split at h
      · rename_i hh; simp at h; subst h; exact hh
      · cases h
    · cases h

/-- The outer form of a type that is flat. -/
theorem flat_cases {d : Nat} {t : TypeId} {ks : List CK} (h : flat P (d + 1) t = some ks) :
    (P.underlying t = some .bool ∧ ks = [.b]) ∨ (∃ k, P.underlying t = some (.int k) ∧ ks = [.i k]) ∨
    (∃ m e js, P.underlying t = some (.array m e) ∧ flat P d e = some js ∧ ks = (List.replicate m js).flatten) ∨
    (∃ fs, P.underlying t = some (.struct fs) ∧ P.stoodInHeld t = false ∧ flatF (flat P d) 0 fs.toList = some ks) := by
  simp only [flat] at h
  split at h
  · rename_i ks' hm
    split at h
    · simp at h; subst h
      split at hm
      · rename_i hu; simp at hm; exact .inl ⟨hu, hm.symm⟩
      · rename_i k hu; simp at hm; exact .inr (.inl ⟨k, hu, hm.symm⟩)
      · rename_i m e hu
        simp only [Option.map_eq_some_iff] at hm
        obtain ⟨js, hj, rfl⟩ := hm
        exact .inr (.inr (.inl ⟨m, e, js, hu, hj, rfl⟩))
      · rename_i fs hu
        split at hm
        · cases hm
        · rename_i hs; exact .inr (.inr (.inr ⟨fs, hu, by simpa using hs, hm⟩))
      · cases hm
    · cases h
  · cases h

theorem flat_agg {d : Nat} {t : TypeId} {ks : List CK} (h : flat P d t = some ks) : ∃ b, tyAgg P t = some b ∧ (b = false → ks.length = 1) := by
  cases d with
  | zero => simp [flat] at h
  | succ d =>
    rcases flat_cases h with ⟨hu, rfl⟩ | ⟨k, hu, rfl⟩ | ⟨m, e, js, hu, _, _⟩ | ⟨fs, hu, _, _⟩
    · exact ⟨false, by simp [tyAgg, hu], fun _ => rfl⟩
    · exact ⟨false, by simp [tyAgg, hu], fun _ => rfl⟩
    · exact ⟨true, by simp [tyAgg, hu], fun h => by cases h⟩
    · exact ⟨true, by simp [tyAgg, hu], fun h => by cases h⟩

theorem run_part_flat {d : Nat} {t : TypeId} {ks : List CK} (h : flat P d t = some ks) {cs : List Value} {off : Nat} (hl : off + ks.length ≤ cs.length) (w : World) :
    (part t cs.toArray off).run P w = .ok (vOf P t ((cs.drop off).take ks.length)) w := by
  obtain ⟨b, hb, hn⟩ := flat_agg h
  exact run_part_seg (flat_size h) hb hl hn w

/-- Equality at one type, as the form has it. -/
def EqFlat (P : Program) (n : Nat) (t : TypeId) (ks : List CK) : Prop :=
  ∀ xs ys, fitsV ks xs = true → fitsV ks ys = true → ∀ w, (Op.equalIn n t (vOf P t xs) (vOf P t ys)).run P w = .ok (eqL xs ys) w

theorem eqItems_flat {n d : Nat} {e : TypeId} {js : List CK} (hf : flat P d e = some js) (he : EqFlat P n e js) : ∀ (r j : Nat) (xs ys : List Value),
    xs.length = ys.length → (j + r) * js.length = xs.length → fitsV (List.replicate r js).flatten (xs.drop (j * js.length)) = true → fitsV (List.replicate r js).flatten (ys.drop (j * js.length)) = true → ∀ w,
    (Op.eqItems n e js.length xs.toArray ys.toArray (List.range' j r)).run P w = .ok (eqL (xs.drop (j * js.length)) (ys.drop (j * js.length))) w
  | 0, j, xs, ys, hl, hz, h1, h2, w => by
    have e1 : xs.drop (j * js.length) = [] := List.drop_eq_nil_of_le (by simp at hz; omega)
    have e2 : ys.drop (j * js.length) = [] := List.drop_eq_nil_of_le (by simp at hz; omega)
    rw [e1, e2]; simp [Op.eqItems, eqL]
  | r + 1, j, xs, ys, hl, hz, h1, h2, w => by
    have hexp : (j + (r + 1)) * js.length = j * js.length + js.length + r * js.length := by rw [Nat.add_mul, Nat.succ_mul]; omega
    have hb : j * js.length + js.length ≤ xs.length := by rw [← hz, hexp]; omega
    simp only [List.replicate_succ, List.flatten_cons] at h1 h2
    obtain ⟨a1, a2⟩ := fitsV_append h1
    obtain ⟨b1, b2⟩ := fitsV_append h2
    rw [List.drop_drop] at a2 b2
    have hsucc : (j + 1) * js.length = j * js.length + js.length := Nat.succ_mul ..
    have ih := eqItems_flat hf he r (j + 1) xs ys hl (by rw [← hz]; congr 1; omega) (by rw [hsucc]; exact a2) (by rw [hsucc]; exact b2)
    simp only [List.range'_succ, Op.eqItems, Sem.run_bind]
    rw [run_part_flat hf hb]
    simp only [Result.andThen_ok]
    rw [run_part_flat hf (by omega)]
    simp only [Result.andThen_ok, he _ _ a1 b1 w]
    have split : ∀ zs : List Value, zs.drop (j * js.length) = (zs.drop (j * js.length)).take js.length ++ zs.drop ((j + 1) * js.length) := by
      intro zs
      rw [hsucc, ← List.drop_drop, List.take_append_drop]
    have hR : eqL (xs.drop (j * js.length)) (ys.drop (j * js.length)) = (eqL ((xs.drop (j * js.length)).take js.length) ((ys.drop (j * js.length)).take js.length) && eqL (xs.drop ((j + 1) * js.length)) (ys.drop ((j + 1) * js.length))) := by
      conv => lhs; rw [split xs, split ys]
      rw [eqL_append (by simp [hl])]
    rw [hR]
    cases eqL ((xs.drop (j * js.length)).take js.length) ((ys.drop (j * js.length)).take js.length)
    · simp
    · simp only [Bool.not_true, Bool.false_eq_true, if_false, Bool.true_and]
      exact ih w

theorem eqFields_flat {n d : Nat} (he : ∀ t js, flat P d t = some js → EqFlat P n t js) : ∀ (fs : List Field) (off : Nat) (ks : List CK) (xs ys : List Value),
    flatF (flat P d) off fs = some ks → xs.length = ys.length → off + ks.length = xs.length → fitsV ks (xs.drop off) = true → fitsV ks (ys.drop off) = true → ∀ w,
    (Op.eqFields n xs.toArray ys.toArray fs).run P w = .ok (eqL (xs.drop off) (ys.drop off)) w
  | [], off, ks, xs, ys, hf, hl, hz, h1, h2, w => by
    simp [flatF] at hf; subst hf
    have e1 : xs.drop off = [] := List.drop_eq_nil_of_le (by simp at hz; omega)
    have e2 : ys.drop off = [] := List.drop_eq_nil_of_le (by simp at hz; omega)
    rw [e1, e2]; simp [Op.eqFields, eqL]
  | f :: fs, off, ks, xs, ys, hf, hl, hz, h1, h2, w => by
    simp only [flatF] at hf
    split at hf
    · cases hf
    · rename_i hc
      simp only [Bool.or_eq_true, decide_eq_true_eq, not_or, Decidable.not_not] at hc
      obtain ⟨hname, hoff⟩ := hc
      split at hf
      · cases hf
      · rename_i js hj
        simp only [Option.map_eq_some_iff] at hf
        obtain ⟨ks', hk, rfl⟩ := hf
        obtain ⟨a1, a2⟩ := fitsV_append h1
        obtain ⟨b1, b2⟩ := fitsV_append h2
        rw [List.drop_drop] at a2 b2
        have hlen : off + js.length ≤ xs.length := by simp at hz; omega
        have ih := eqFields_flat he fs (off + js.length) ks' xs ys hk hl (by simp at hz; omega) a2 b2
        simp only [Op.eqFields, Ne, hname, not_false_eq_true, if_true, Sem.run_bind, hoff]
        rw [run_part_flat hj hlen]
        simp only [Result.andThen_ok]
        rw [run_part_flat hj (by omega)]
        simp only [Result.andThen_ok, he _ _ hj _ _ a1 b1 w]
        have split : ∀ zs : List Value, zs.drop off = (zs.drop off).take js.length ++ zs.drop (off + js.length) := by
          intro zs
          rw [← List.drop_drop, List.take_append_drop]
        have hR : eqL (xs.drop off) (ys.drop off) = (eqL ((xs.drop off).take js.length) ((ys.drop off).take js.length) && eqL (xs.drop (off + js.length)) (ys.drop (off + js.length))) := by
          conv => lhs; rw [split xs, split ys]
          rw [eqL_append (by simp [hl])]
        rw [hR]
        cases eqL ((xs.drop off).take js.length) ((ys.drop off).take js.length)
        · simp
        · simp only [Bool.not_true, Bool.false_eq_true, if_false, Bool.true_and]
          exact ih w

theorem equalIn_flat : ∀ (d : Nat) (t : TypeId) (ks : List CK) (n : Nat), flat P d t = some ks → EqFlat P (n + d) t ks
  | 0, t, ks, n, h => by simp [flat] at h
  | d + 1, t, ks, n, h => by
    intro xs ys h1 h2 w
    have hz := flat_size h
    rcases flat_cases h with ⟨hu, rfl⟩ | ⟨k, hu, rfl⟩ | ⟨m, e, js, hu, hj, rfl⟩ | ⟨fs, hu, hs, hf⟩
    · obtain ⟨x, rfl⟩ := fitsV_b h1
      obtain ⟨y, rfl⟩ := fitsV_b h2
      have : tyAgg P t = some false := by simp [tyAgg, hu]
      simp only [vOf, this, List.headD_cons]
      rw [show n + (d + 1) = (n + d) + 1 from rfl, run_equalIn_bool' w (n + d) t x y hu]
      simp [eqL]
    · obtain ⟨x, rfl⟩ := fitsV_i h1
      obtain ⟨y, rfl⟩ := fitsV_i h2
      have : tyAgg P t = some false := by simp [tyAgg, hu]
      simp only [vOf, this, List.headD_cons]
      rw [show n + (d + 1) = (n + d) + 1 from rfl, run_equalIn_int w (n + d) t _ _ x y hu]
      simp [eqL, int_beq]
    · have ha : tyAgg P t = some true := by simp [tyAgg, hu]
      have hje := flat_size hj
      obtain ⟨i, hi, _⟩ : ∃ i, P.info? e = some i ∧ i.size = js.length := by
        unfold tySize at hje
        simp only [Option.map_eq_some_iff] at hje
        exact hje
      simp only [vOf, ha]
      rw [show n + (d + 1) = (n + d) + 1 from rfl, run_equalIn_array w (n + d) _ _ hu hi, cellsOf_eq hje, List.range_eq_range']
      have l1 := fitsV_length h1
      have l2 := fitsV_length h2
      have := eqItems_flat hj (equalIn_flat d e js n hj) m 0 xs ys (by rw [l1, l2]) (by rw [l1]; simp) (by simpa using h1) (by simpa using h2) w
      simpa using this
    · have ha : tyAgg P t = some true := by simp [tyAgg, hu]
      simp only [vOf, ha]
      have hff : P.fieldsOf t = fs := by simp [Program.fieldsOf, hu]
      rw [show n + (d + 1) = (n + d) + 1 from rfl, run_equalIn_struct w (n + d) t _ _ (by rw [hff]; exact hu) hs, hff]
      have l1 := fitsV_length h1
      have l2 := fitsV_length h2
      have := eqFields_flat (fun t' js hj => equalIn_flat d t' js n hj) fs.toList 0 ks xs ys hf (by rw [l1, l2]) (by rw [l1]; simp) (by simpa using h1) (by simpa using h2) w
      simpa using this
end
end Go.SF
