/- Maps: what is looked up, laid, taken away; iterators. -/
import Derived.Test.YtnhdohhhgfdhfaaSFStepA
import Derived.MapKept
namespace Go.SF
set_option linter.unusedVariables false
set_option linter.unusedSimpArgs false

section
variable {Φ : Sig} {ρ : Env} {μ : List Loc} {P : Program} {B : Base} {w : World} {s : St} {a : Act} {pc : List SB}

theorem mapTy_ok {t k e : TypeId} {kk : IntKind} {ks : List CK} {sc : Bool} (h : mapTy P t = some (k, kk, e, ks, sc)) :
    P.underlying t = some (.map k e) ∧ P.underlying k = some (.int kk) ∧ flatQ P 5 e = some ks ∧ tyAgg P e = some (!sc) := by
  unfold mapTy at h
  split at h
  · rename_i k' e' hu
    split at h
    · rename_i kk' ks' ag h1 h2 h3
      simp only [Option.some.injEq, Prod.mk.injEq] at h
      obtain ⟨rfl, rfl, rfl, rfl, rfl⟩ := h
      exact ⟨hu, h1, h2, by simpa using h3⟩
    · cases h
  · cases h

/-- A table's rows and a map's entries. -/
def Ents (kk : IntKind) (ks : List CK) (sc : Bool) (A : Tab) (es : Array MapEntry) : Prop :=
  A.Pairwise (fun a b => hdK a < hdK b) ∧ (∃ ms, ∀ row ∈ A, okRow (.i kk :: (ks ++ ms)) row) ∧
  (es.toList.map fun e => (e.key, e.val)).Perm (A.map fun row => (Value.int kk (hdK row), mapVal ks sc row.tail))

theorem Ents.key {kk : IntKind} {ks : List CK} {sc : Bool} {A : Tab} {es : Array MapEntry} (h : Ents kk ks sc A es) {x : MapEntry} (hx : x ∈ es.toList) : ∃ row ∈ A, x.key = .int kk (hdK row) ∧ x.val = mapVal ks sc row.tail := by
  have := h.2.2.mem_iff.1 (List.mem_map_of_mem (f := fun e : MapEntry => (e.key, e.val)) hx)
  obtain ⟨row, hr, e⟩ := List.mem_map.1 this
  simp only [Prod.mk.injEq] at e
  exact ⟨row, hr, e.1.symm, e.2.symm⟩
theorem Ents.row {kk : IntKind} {ks : List CK} {sc : Bool} {A : Tab} {es : Array MapEntry} (h : Ents kk ks sc A es) {row : List Int} (hr : row ∈ A) : ∃ x ∈ es.toList, x.key = .int kk (hdK row) ∧ x.val = mapVal ks sc row.tail := by
  have := h.2.2.mem_iff.2 (List.mem_map_of_mem (f := fun row => (Value.int kk (hdK row), mapVal ks sc row.tail)) hr)
  obtain ⟨x, hx, e⟩ := List.mem_map.1 this
  simp only [Prod.mk.injEq] at e
  exact ⟨x, hx, e.1, e.2⟩
theorem sorted_key {A : Tab} (h : A.Pairwise (fun a b => hdK a < hdK b)) {r r' : List Int} (hr : r ∈ A) (hr' : r' ∈ A) (e : hdK r = hdK r') : r = r' := by
  induction A with
  | nil => cases hr
  | cons x A ih =>
    have h' := List.pairwise_cons.1 h
    rcases List.mem_cons.1 hr with e1 | h1 <;> rcases List.mem_cons.1 hr' with e2 | h2
    · rw [e1, e2]
    · have := h'.1 _ h2; rw [e1] at e; omega
    · have := h'.1 _ h1; rw [e2] at e; omega
    · exact ih h'.2 h1 h2
theorem findK_one {A : Tab} (h : A.Pairwise (fun a b => hdK a < hdK b)) {r : List Int} (hr : r ∈ A) : findK A (hdK r) = [r] := by
  induction A with
  | nil => cases hr
  | cons x A ih =>
    have h' := List.pairwise_cons.1 h
    unfold findK
    by_cases e : hdK x = hdK r
    · have hx := sorted_key h (List.mem_cons_self ..) hr e
      rw [List.filter_cons_of_pos (by simpa using e), filter_none, hx]
      intro y hy
      have := h'.1 y hy
      rw [decide_eq_false_iff_not]; omega
    · rw [List.filter_cons_of_neg (by simpa using e)]
      rcases List.mem_cons.1 hr with e1 | h1
      · exact absurd (by rw [e1]) e
      · exact ih h'.2 h1
theorem findK_none {A : Tab} {n : Int} (h : ∀ r ∈ A, hdK r ≠ n) : findK A n = [] := filter_none fun r hr => by rw [decide_eq_false_iff_not]; exact h r hr
/-- What is found. -/
theorem ents_find {kk : IntKind} {ks : List CK} {sc : Bool} {A : Tab} {es : Array MapEntry} (h : Ents kk ks sc A es) (n : Int) :
    (Instr.findNow (.int kk) (.int kk n) es.toList 0 = some none ∧ findK A n = [] ∧ ∀ x ∈ es.toList, x.key ≠ .int kk n) ∨
    ∃ j e row, Instr.findNow (.int kk) (.int kk n) es.toList 0 = some (some (j, mapVal ks sc row.tail)) ∧ findK A n = [row] ∧ row ∈ A ∧ hdK row = n ∧ es.toList[j]? = some e ∧ e.key = .int kk n ∧ e.val = mapVal ks sc row.tail := by
  have hk : ∀ x ∈ es.toList, MapKept.IsKey (.int kk) x.key := fun x hx => by
    obtain ⟨row, _, e, _⟩ := h.key hx
    rw [e]; simp [MapKept.IsKey]
  rcases MapKept.findNow_spec (d := .int kk) (k := .int kk n) (by simp [MapKept.IsKey]) es.toList 0 hk with ⟨h1, h2⟩ | ⟨j, e, h1, h2, h3⟩
  · refine .inl ⟨h1, findK_none fun r hr he => ?_, h2⟩
    obtain ⟨x, hx, e1, _⟩ := h.row hr
    exact h2 x hx (by rw [e1, he])
  · have he := List.mem_of_getElem? h2
    obtain ⟨row, hr, e1, e2⟩ := h.key he
    have e3 : hdK row = n := by rw [h3] at e1; cases e1; rfl
    refine .inr ⟨j, e, row, by rw [h1, Nat.zero_add, e2], by rw [← e3]; exact findK_one h.1 hr, hr, e3, h2, h3, e2⟩

theorem rowVals_zip : ∀ (ks ms : List CK) (row : List Int), okRow (ks ++ ms) row → rowVals ks row = ks.zipIdx.map fun x => ckVal x.1 (row.getD x.2 0)
  | [], ms, row, _ => by cases row <;> simp [rowVals]
  | k :: ks, ms, [], h => by simp [okRow] at h
  | k :: ks, ms, n :: ns, h => by
    simp only [List.cons_append, okRow] at h
    rw [rowVals, rowVals_zip ks ms ns h.2]
    simp only [List.zipIdx_cons, List.map_cons, List.getD_cons_zero, Nat.zero_add]
    congr 1
    have e : ks.zipIdx 1 = (ks.zipIdx 0).map fun x => (x.1, x.2 + 1) := by
      rw [List.zipIdx_succ]
    rw [e, List.map_map]
    apply List.map_congr_left
    intro x _; simp
theorem zip_zero : ∀ (ks : List CK) (j : Nat), ((ks.zipIdx.map fun x => ckVal x.1 (([] : List Int).getD (j + x.2) 0)) : List Value) = ks.map fun k => ckVal k 0 := by
  intro ks j
  simp only [List.getD_nil]
  conv => rhs; rw [← List.zipIdx_map_fst 0 ks]
  rw [List.map_map]; rfl
theorem zeroCs_ok : ∀ (ks : List CK) (cs : List CV) (vs : List Value), zeroCs ks cs = true → denL Φ ρ μ cs = some vs → vs = ks.map fun k => ckVal k 0 := by
  intro ks
  induction ks with
  | nil =>
    intro cs vs hz h
    cases cs with
    | nil => simp [denL] at h; subst h; rfl
    | cons c cs => simp [zeroCs] at hz
  | cons k ks ih =>
    intro cs vs hz h
    unfold zeroCs at hz
    split at hz
    · rename_i e; cases e
    · rename_i k' ks' l n cs' e
      cases e
      simp only [Bool.and_eq_true, decide_eq_true_eq] at hz
      obtain ⟨⟨rfl, rfl⟩, hz⟩ := hz
      simp only [denL, denC, ev_c] at h
      split at h
      · rename_i v us h1 h2
        simp at h h1; subst h; subst h1
        rw [ih _ _ hz h2]; rfl
      · cases h
    · rename_i ks' b cs' e
      cases e
      simp only [Bool.and_eq_true, Bool.not_eq_true'] at hz
      obtain ⟨rfl, hz⟩ := hz
      simp only [denL, denC, evB_c] at h
      split at h
      · rename_i v us h1 h2
        simp at h h1; subst h; subst h1
        rw [ih _ _ hz h2]; simp [ckVal]
      · cases h
    · rename_i ks' k' l n cs' e
      cases e
      simp only [Bool.and_eq_true, decide_eq_true_eq] at hz
      obtain ⟨⟨rfl, rfl⟩, hz⟩ := hz
      simp only [denL, denC, ev_c] at h
      split at h
      · rename_i v us h1 h2
        simp at h h1; subst h; subst h1
        rw [ih _ _ hz h2]; rfl
      · cases h
    · cases hz

/-- The value of a row of cells. -/
theorem rowV_ok {sc : Bool} {cs : List CV} {v : CV ⊕ List CV} {vs : List Value} (h : rowV sc cs = some v) (hc : denL Φ ρ μ cs = some vs) :
    denT Φ ρ μ [v] = some [if sc then vs.headD undef else .agg vs.toArray] := by
  unfold rowV at h
  split at h
  · rename_i c
    simp at h; subst h
    simp only [denL] at hc
    split at hc
    · rename_i v us h1 h2
      simp at h2 hc; subst h2; subst hc
      simp [denT, h1]
    · cases hc
  · simp at h; subst h
    simp [denT, hc]
  · cases h
theorem okRow_key {kk : IntKind} {ks : List CK} {row : List Int} (h : okRow (.i kk :: ks) row) : row = hdK row :: row.tail ∧ okRow ks row.tail := by
  match row, h with
  | n :: ns, h => exact ⟨rfl, h.2⟩
/-- What a lookup finds, as cells. -/
theorem find_cells {kk : IntKind} {ks : List CK} {sc : Bool} {A : SL} {es : Array MapEntry} (h : Ents kk ks sc (A.ev Φ ρ) es) (n : SI) :
    ∃ vs, denL Φ ρ μ (extCells (mkFind 9 A n) (.c 0) 1 ks) = some vs ∧
      ((findK (A.ev Φ ρ) (n.ev Φ ρ) = [] ∧ vs = ks.map (fun k => ckVal k 0)) ∨ ∃ row ∈ A.ev Φ ρ, findK (A.ev Φ ρ) (n.ev Φ ρ) = [row] ∧ hdK row = n.ev Φ ρ ∧ vs = rowVals ks row.tail) := by
  refine ⟨_, denL_ext rfl 1 ks, ?_⟩
  rw [ev_mkFind, ev_c]
  rcases ents_find h (n.ev Φ ρ) with ⟨_, h2, _⟩ | ⟨j, e, row, _, h2, h3, h4, _⟩
  · refine .inl ⟨h2, ?_⟩
    rw [h2]; exact zip_zero ks 1
  · refine .inr ⟨row, h3, h2, h4, ?_⟩
    obtain ⟨ms, hms⟩ := h.2.1
    obtain ⟨h5, h6⟩ := okRow_key (hms row h3)
    rw [rowVals_zip ks ms _ h6, h2]
    apply List.map_congr_left
    intro x _
    show ckVal x.1 (row.getD (1 + x.2) 0) = _
    conv => lhs; rw [h5]
    rw [show 1 + x.2 = x.2 + 1 by omega, List.getD_cons_succ]
def noSig : Sig := ⟨fun _ _ => 0, fun _ _ => [], fun _ _ => false, fun _ _ _ _ => False, fun _ _ _ _ _ h _ => h⟩
def noEnv : Env := ⟨fun _ => 0, fun _ => false, fun _ => []⟩
theorem zeroIs_ok {e : TypeId} {ks : List CK} {sc : Bool} (h : zeroIs P e ks sc = true) (w : World) : (zeroValue e).run P w = .ok (mapVal ks sc (ks.map fun _ => 0)) w := by
  have hv : rowVals ks (ks.map fun _ => 0) = ks.map fun k => ckVal k 0 := by
    clear h
    induction ks with
    | nil => rfl
    | cons k ks ih => simp only [List.map_cons, rowVals, ih]
  unfold zeroIs at h
  split at h
  · rename_i c hz
    rw [Bool.and_eq_true] at h
    obtain ⟨rfl, h⟩ := h
    obtain ⟨v, hd, hrun, _⟩ := zero_ok (Φ := noSig) (ρ := noEnv) (μ := []) hz w
    have := zeroCs_ok (Φ := noSig) (ρ := noEnv) (μ := []) ks [c] [v] h (by simp only [den] at hd; simp [denL, hd])
    rw [hrun]
    simp only [mapVal, if_true, hv, ← this, List.headD_cons]
  · rename_i cs hz
    rw [Bool.and_eq_true, Bool.not_eq_true'] at h
    obtain ⟨rfl, h⟩ := h
    obtain ⟨v, hd, hrun, _⟩ := zero_ok (Φ := noSig) (ρ := noEnv) (μ := []) hz w
    simp only [den, Option.map_eq_some_iff] at hd
    obtain ⟨vs, hd, rfl⟩ := hd
    have := zeroCs_ok ks cs vs h hd
    rw [hrun]
    simp only [mapVal, hv, ← this]
    rfl
  · cases h

/-- Where a map is. -/
theorem mapAt_ok (hM : MRel Φ ρ μ B s.m w) {id i : Nat} {it : Bool} {kk : IntKind} {ks : List CK} {sc : Bool} {A : SL} (h : mapAt s.m id = some (i, it, kk, ks, sc, A)) {lm : Loc} (hl : μ[id]? = some lm) :
    ∃ l, μ[i]? = some l ∧ lm.blk ∈ l.own ∧
      ((it = false ∧ i = id ∧ s.m.o[i]? = some (.abs (.map kk ks sc) A) ∧ RepMap kk ks sc (A.ev Φ ρ) w lm) ∨
       (it = true ∧ ∃ cur, s.m.o[i]? = some (.iter id kk ks sc A cur) ∧ ObjOK Φ ρ μ w l (.iter id kk ks sc A cur))) ∧
      ∃ es clock, w.heap[lm.blk]? = some (.map es clock) ∧ Ents kk ks sc (A.ev Φ ρ) es := by
  unfold mapAt at h
  split at h
  · rename_i kk' ks' sc' A' ho
    simp at h
    obtain ⟨rfl, rfl, rfl, rfl, rfl, rfl⟩ := h
    have hR : RepMap kk' ks' sc' (A'.ev Φ ρ) w lm := hM.obj id _ lm ho hl
    refine ⟨lm, hl, by rw [hR.1]; simp, .inl ⟨rfl, rfl, ho, hR⟩, ?_⟩
    obtain ⟨_, h2, h3, es, clock, h4, h5, _⟩ := hR
    exact ⟨es, clock, h4, h2, ⟨[], by simpa using h3⟩, h5⟩
  · rename_i ho
    split at h
    · rename_i j hj
      split at h
      · rename_i mid kk' ks' sc' M cur hoj
        split at h
        · rename_i hmid
          have hmid := Nat.eq_of_beq_eq_true hmid
          subst hmid
          simp at h
          obtain ⟨rfl, rfl, rfl, rfl, rfl, rfl⟩ := h
          obtain ⟨l, hlj⟩ := obj_loc hM hoj
          have hO := hM.obj j _ l hoj hlj
          have hO' := hO
          obtain ⟨_, _, lm', g1, g2, g3, g4, _, p1, p2, es, clock, seen, q1, q2, q3, _⟩ := hO
          rw [hl] at g1; cases g1
          refine ⟨l, hlj, by rw [g3]; simp, .inr ⟨rfl, cur, hoj, hO'⟩, es, clock, q1, p1, ⟨[.b], p2⟩, ?_⟩
          have := q3.map (fun x : Value × Value × Bool => (x.1, x.2.1))
          simp only [List.map_map] at this
          exact this
        · cases h
      · cases h
    · cases h
  · cases h
theorem run_lookup_map {t k e : TypeId} {kk : IntKind} {ks : List CK} {sc : Bool} (ht : P.underlying t = some (.map k e)) (hk : P.underlying k = some (.int kk)) (hz : zeroIs P e ks sc = true) {b : Nat} {es : Array MapEntry} {clock : Nat} (hb : w.heap[b]? = some (.map es clock)) {A : Tab} (h : Ents kk ks sc A es) (n : Int) (ok : Bool) :
    ∃ v, (Instr.lookup t (.map (some b)) (.int kk n) ok).run P w = .ok (if ok then .tuple #[v, .bool (decide (0 < (findK A n).length))] else v) w ∧
      ((findK A n = [] ∧ v = mapVal ks sc (ks.map fun _ => 0)) ∨ ∃ row ∈ A, findK A n = [row] ∧ v = mapVal ks sc row.tail) := by
  have hck := MapKept.run_checkKey (P := P) (w := w) hk (k := .int kk n) (by simp [MapKept.IsKey]) es.isEmpty 9999
  rcases ents_find h n with ⟨h1, h2, _⟩ | ⟨j, e', row, h1, h2, h3, _⟩
  · refine ⟨_, ?_, .inl ⟨h2, rfl⟩⟩
    have hf := MapKept.run_findKey (P := P) (w := w) hk h1
    simp [Instr.lookup, Sem.run_bind, run_underlying ht, MapKept.run_getObj_map hb, hck, hf, zeroIs_ok hz, Result.andThen, h2]
  · refine ⟨_, ?_, .inr ⟨row, h3, h2, rfl⟩⟩
    have hf := MapKept.run_findKey (P := P) (w := w) hk h1
    simp [Instr.lookup, Sem.run_bind, run_underlying ht, MapKept.run_getObj_map hb, hck, hf, Result.andThen, h2]

theorem rowVals_zero : ∀ ks : List CK, rowVals ks (ks.map fun _ => 0) = ks.map fun k => ckVal k 0
  | [] => rfl
  | k :: ks => by simp only [List.map_cons, rowVals, rowVals_zero ks]
theorem okCell_zero (k : CK) : okCell k 0 := by
  cases k with
  | i k => intro _; cases k <;> simp [kmin, kmax]
  | b => exact .inl rfl
  | cd k => exact Int.le_refl _
theorem okRow_get : ∀ {ks ms : List CK} {row : List Int}, okRow (ks ++ ms) row → ∀ (i : Nat) (k : CK), ks[i]? = some k → okCell k (row.getD i 0)
  | [], ms, row, _, i, k, h => by simp at h
  | c :: ks, ms, [], h, i, k, hk => by simp [okRow] at h
  | c :: ks, ms, n :: ns, h, 0, k, hk => by
    simp at hk; subst hk
    exact h.1
  | c :: ks, ms, n :: ns, h, i + 1, k, hk => by
    rw [List.getD_cons_succ]
    exact okRow_get h.2 i k (by simpa using hk)
theorem lookup_ok (hM : MRel Φ ρ μ B s.m w) (hp : holds Φ ρ pc) {t : TypeId} {x k v : AV} {ok : Bool} {fs : List SB} {vx vk : Value} (h : lookupOp P s pc t x k ok = some (v, fs)) (hx : den Φ ρ μ x = some vx) (hk : den Φ ρ μ k = some vk) :
    holds Φ ρ fs ∧ ∃ u, den Φ ρ μ v = some u ∧ (Instr.lookup t vx vk ok).run P w = .ok u w := by
  unfold lookupOp at h
  split at h
  case h_2 => cases h
  rename_i kt kk e ks sc id k' n hmt
  obtain ⟨ht, hkt, hfl, hag⟩ := mapTy_ok hmt
  split at h
  case h_2 => cases h
  rename_i i it kk' ks' sc' A hat
  split at h
  case isFalse => cases h
  rename_i hc
  obtain ⟨rfl, rfl, rfl, rfl, hz⟩ := hc
  split at h
  case h_2 => cases h
  rename_i rv hrv
  simp only [Option.some.injEq, Prod.mk.injEq] at h
  obtain ⟨rfl, rfl⟩ := h
  simp only [den, denC, Option.map_eq_some_iff, Option.some.injEq] at hx hk
  obtain ⟨lm, hl, rfl⟩ := hx
  subst hk
  obtain ⟨_, _, _, _, es, clock, hb, hE⟩ := mapAt_ok hM hat hl
  obtain ⟨vs, hvs, hcase⟩ := find_cells (μ := μ) hE n
  obtain ⟨u, hrun, hu⟩ := run_lookup_map (w := w) ht hkt hz hb hE (n.ev Φ ρ) ok
  have hv : u = if sc' then vs.headD undef else .agg vs.toArray := by
    rcases hcase with ⟨h1, h2⟩ | ⟨row, _, h1, _, h2⟩ <;> rcases hu with ⟨h3, h4⟩ | ⟨row', _, h3, h4⟩
    · rw [h4, h2]
      simp only [mapVal, rowVals_zero]
    · rw [h1] at h3; cases h3
    · rw [h1] at h3; cases h3
    · rw [h1] at h3; cases h3
      rw [h4, h2]; rfl
  refine ⟨facts_ok rfl 1 ks' fun i k hk => ?_, ?_⟩
  · rw [ev_mkFind, ev_c]
    rcases ents_find hE (n.ev Φ ρ) with ⟨_, h2, _⟩ | ⟨_, _, row, _, h2, h3, _⟩
    · rw [h2]; simpa using okCell_zero k
    · rw [h2]
      obtain ⟨ms, hms⟩ := hE.2.1
      obtain ⟨h5, h6⟩ := okRow_key (hms row h3)
      show okCell k (row.getD (1 + i) 0)
      rw [h5, show 1 + i = i + 1 by omega, List.getD_cons_succ]
      exact okRow_get h6 i k hk
  · have hd := rowV_ok hrv hvs
    rw [← hv] at hd
    have hlen : (mkLt (.c 0) (mkLen 60 (mkFind 9 A n))).ev Φ ρ = decide (0 < (findK (A.ev Φ ρ) (n.ev Φ ρ)).length) := by simp
    refine ⟨_, ?_, hrun⟩
    cases ok with
    | false =>
      cases rv with
      | inl c =>
        simp only [denT] at hd
        simp only [Bool.false_eq_true, if_false, den]
        cases hc : denC Φ ρ μ c with
        | none => rw [hc] at hd; cases hd
        | some y => rw [hc] at hd; simpa using hd
      | inr cs =>
        simp only [denT] at hd
        simp only [Bool.false_eq_true, if_false, den]
        cases hc : denL Φ ρ μ cs with
        | none => rw [hc] at hd; cases hd
        | some y => rw [hc] at hd; simpa using hd
    | true =>
      simp only [if_true, den, Option.map_eq_some_iff]
      refine ⟨[u, .bool (decide (0 < (findK (A.ev Φ ρ) (n.ev Φ ρ)).length))], ?_, rfl⟩
      cases rv with
      | inl c =>
        simp only [denT] at hd ⊢
        cases hc : denC Φ ρ μ c with
        | none => rw [hc] at hd; cases hd
        | some y => rw [hc] at hd; simp at hd; subst hd; simp [denC, hlen]
      | inr cs =>
        simp only [denT] at hd ⊢
        cases hc : denL Φ ρ μ cs with
        | none => rw [hc] at hd; cases hd
        | some y => rw [hc] at hd; simp at hd; subst hd; simp [denC, hlen]

/-! ### what is laid, and taken away -/
theorem delK_mem {A : Tab} {n : Int} {r : List Int} : r ∈ delK A n ↔ r ∈ A ∧ hdK r ≠ n := by simp [delK]
theorem delK_perm {A : Tab} (h : A.Pairwise (fun a b => hdK a < hdK b)) {r : List Int} (hr : r ∈ A) : A.Perm (r :: delK A (hdK r)) := by
  have h1 := (List.filter_append_perm (fun x => decide (hdK x = hdK r)) A).symm
  have h2 : A.filter (fun x => decide (hdK x = hdK r)) = [r] := findK_one h hr
  rw [h2] at h1
  exact h1
theorem delK_none {A : Tab} {n : Int} (h : findK A n = []) : delK A n = A := by
  unfold delK findK at *
  rw [List.filter_eq_self]
  intro r hr
  have := List.filter_eq_nil_iff.1 h r hr
  simpa using this
theorem putK_perm (A : Tab) (row : List Int) : (putK A row).Perm (row :: delK A (hdK row)) := by
  unfold putK
  refine List.perm_middle.trans (List.Perm.cons _ ?_)
  have h1 := List.filter_append_perm (fun x => decide (hdK x < hdK row)) (delK A (hdK row))
  have e1 : (delK A (hdK row)).filter (fun x => decide (hdK x < hdK row)) = A.filter fun r => decide (hdK r < hdK row) := by
    unfold delK; rw [List.filter_filter]; congr 1; funext r
    rw [Bool.eq_iff_iff, Bool.and_eq_true, decide_eq_true_eq, Bool.not_eq_true', decide_eq_false_iff_not]; omega
  have e2 : (delK A (hdK row)).filter (fun x => !decide (hdK x < hdK row)) = A.filter fun r => decide (hdK row < hdK r) := by
    unfold delK; rw [List.filter_filter]; congr 1; funext r
    rw [Bool.eq_iff_iff, Bool.and_eq_true, decide_eq_true_eq, Bool.not_eq_true', decide_eq_false_iff_not, Bool.not_eq_true', decide_eq_false_iff_not]; omega
  rw [e1, e2] at h1
  exact h1
theorem putK_sorted {A : Tab} (h : A.Pairwise (fun a b => hdK a < hdK b)) (row : List Int) : (putK A row).Pairwise (fun a b => hdK a < hdK b) := by
  unfold putK
  rw [List.pairwise_append]
  refine ⟨h.filter _, List.pairwise_cons.2 ⟨fun r hr => ?_, h.filter _⟩, fun a ha b hb => ?_⟩
  · simpa using (List.mem_filter.1 hr).2
  · have h1 : hdK a < hdK row := by simpa using (List.mem_filter.1 ha).2
    rcases List.mem_cons.1 hb with rfl | hb
    · exact h1
    · have h2 : hdK row < hdK b := by simpa using (List.mem_filter.1 hb).2
      omega
theorem putK_mem {A : Tab} {row r : List Int} (h : r ∈ putK A row) : r = row ∨ r ∈ A := by
  have := (putK_perm A row).mem_iff.1 h
  rcases List.mem_cons.1 this with h | h
  · exact .inl h
  · exact .inr (delK_mem.1 h).1
theorem modify_split {α : Type} (F : α → α) : ∀ {l : List α} {j : Nat} {e : α}, l[j]? = some e → ∃ l1 l2, l = l1 ++ e :: l2 ∧ l.modify j F = l1 ++ F e :: l2 ∧ l.eraseIdx j = l1 ++ l2
  | [], j, e, h => by simp at h
  | x :: l, 0, e, h => by
    simp at h; subst h
    exact ⟨[], l, rfl, by simp, by simp⟩
  | x :: l, j + 1, e, h => by
    obtain ⟨l1, l2, h1, h2, h3⟩ := modify_split F (l := l) (by simpa using h)
    exact ⟨x :: l1, l2, by rw [h1]; rfl, by simp [h2], by simp [h3]⟩
section
variable {α : Type} {f : MapEntry → α} {g : List Int → α} {A : Tab} {es : Array MapEntry} {j : Nat} {e : MapEntry} {r : List Int}
theorem rest_perm (hs : A.Pairwise (fun a b => hdK a < hdK b)) (h : (es.toList.map f).Perm (A.map g)) {l1 l2 : List MapEntry} (hj : es.toList = l1 ++ e :: l2) (hr : r ∈ A) (he : f e = g r) : ((l1 ++ l2).map f).Perm ((delK A (hdK r)).map g) := by
  have h1 : ((e :: (l1 ++ l2)).map f).Perm ((r :: delK A (hdK r)).map g) := by
    refine (List.Perm.map f ?_).trans (h.trans ((delK_perm hs hr).map g))
    rw [hj]; exact List.perm_middle.symm
  simp only [List.map_cons, he] at h1
  exact List.Perm.cons_inv h1
theorem perm_modify (hs : A.Pairwise (fun a b => hdK a < hdK b)) (h : (es.toList.map f).Perm (A.map g)) (hj : es.toList[j]? = some e) (hr : r ∈ A) (he : f e = g r) (F : MapEntry → MapEntry) {row : List Int} (hrow : hdK row = hdK r) (hF : f (F e) = g row) :
    ((es.modify j F).toList.map f).Perm ((putK A row).map g) := by
  obtain ⟨l1, l2, h1, h2, _⟩ := modify_split F hj
  rw [Array.toList_modify, h2]
  refine (List.Perm.map f List.perm_middle).trans (List.Perm.trans ?_ ((putK_perm A row).map g).symm)
  simp only [List.map_cons, hF, hrow]
  exact List.Perm.cons _ (rest_perm hs h h1 hr he)
theorem perm_erase (hs : A.Pairwise (fun a b => hdK a < hdK b)) (h : (es.toList.map f).Perm (A.map g)) (hj : es.toList[j]? = some e) (hr : r ∈ A) (he : f e = g r) :
    ((es.eraseIdxIfInBounds j).toList.map f).Perm ((delK A (hdK r)).map g) := by
  obtain ⟨l1, l2, h1, _, h3⟩ := modify_split id hj
  have hlt : j < es.size := by simpa using (List.getElem?_eq_some_iff.1 hj).1
  have : (es.eraseIdxIfInBounds j).toList = es.toList.eraseIdx j := by
    unfold Array.eraseIdxIfInBounds
    rw [dif_pos hlt, Array.toList_eraseIdx]
  rw [this, h3]
  exact rest_perm hs h h1 hr he
theorem perm_push (h : (es.toList.map f).Perm (A.map g)) {row : List Int} (hn : findK A (hdK row) = []) {x : MapEntry} (hx : f x = g row) : ((es.push x).toList.map f).Perm ((putK A row).map g) := by
  rw [Array.toList_push, List.map_append, List.map_singleton]
  refine List.perm_append_comm.trans (List.Perm.trans ?_ ((putK_perm A row).map g).symm)
  rw [delK_none hn, List.map_cons, hx]
  exact List.Perm.cons _ h
end

def setB (w : World) (b : Nat) (o : Obj) : World := { w with heap := w.heap.setIfInBounds b o }
theorem run_update_map {t k e : TypeId} {kk : IntKind} {ks : List CK} {sc : Bool} (ht : P.underlying t = some (.map k e)) (hk : P.underlying k = some (.int kk)) {b : Nat} {es : Array MapEntry} {clock : Nat} (hb : w.heap[b]? = some (.map es clock)) {A : Tab} (h : Ents kk ks sc A es) (n : Int) (v : Value) :
    (findK A n = [] ∧ (Instr.mapUpdate t (.map (some b)) (.int kk n) v).run P w = .ok () (setB w b (.map (es.push { key := .int kk n, val := v, born := clock }) (clock + 1)))) ∨
    ∃ j e row, findK A n = [row] ∧ row ∈ A ∧ hdK row = n ∧ es.toList[j]? = some e ∧ e.key = .int kk n ∧ e.val = mapVal ks sc row.tail ∧
      (Instr.mapUpdate t (.map (some b)) (.int kk n) v).run P w = .ok () (setB w b (.map (es.modify j fun e => { e with key := .int kk n, val := v }) clock)) := by
  have hck := MapKept.run_checkKey (P := P) (w := w) hk (k := .int kk n) (by simp [MapKept.IsKey]) false 9999
  rcases ents_find h n with ⟨h1, h2, _⟩ | ⟨j, e', row, h1, h2, h3, h4, h5, h6, h7⟩
  · have hf := MapKept.run_findKey (P := P) (w := w) hk h1
    refine .inl ⟨h2, ?_⟩
    simp [Instr.mapUpdate, Sem.run_bind, run_underlying ht, MapKept.run_getObj_map hb, hck, hf, MapKept.run_setObj_map _ hb, Result.andThen, setB]
  · have hf := MapKept.run_findKey (P := P) (w := w) hk h1
    have hst := MapKept.run_keyThatStays (P := P) (w := w) (d := .int kk) (k := .int kk n) (by simp [MapKept.IsKey])
    have hj : es[j]? = some e' := by rw [← h5]; simp
    refine .inr ⟨j, e', row, h2, h3, h4, h5, h6, h7, ?_⟩
    simp [Instr.mapUpdate, Sem.run_bind, run_underlying ht, MapKept.run_getObj_map hb, hck, hf, hj, h6, hst, MapKept.run_setObj_map _ hb, Result.andThen, setB]
theorem run_delete_map {t k e ty : TypeId} {ts : Array TypeId} {kk : IntKind} {ks : List CK} {sc : Bool} (h0 : ts[0]? = some t) (ht : P.underlying t = some (.map k e)) (hk : P.underlying k = some (.int kk)) {b : Nat} {es : Array MapEntry} {clock : Nat} (hb : w.heap[b]? = some (.map es clock)) {A : Tab} (h : Ents kk ks sc A es) (n : Int) :
    (findK A n = [] ∧ (Builtin.delete_ ts ty #[.map (some b), .int kk n]).run P w = .ok (.tuple #[]) (setB w b (.map es clock))) ∨
    ∃ j e row, findK A n = [row] ∧ row ∈ A ∧ hdK row = n ∧ es.toList[j]? = some e ∧ e.key = .int kk n ∧ e.val = mapVal ks sc row.tail ∧
      (Builtin.delete_ ts ty #[.map (some b), .int kk n]).run P w = .ok (.tuple #[]) (setB w b (.map (es.eraseIdxIfInBounds j) clock)) := by
  have hck := MapKept.run_checkKey (P := P) (w := w) hk (k := .int kk n) (by simp [MapKept.IsKey]) es.isEmpty 9999
  rcases ents_find h n with ⟨h1, h2, _⟩ | ⟨j, e', row, h1, h2, h3, h4, h5, h6, h7⟩
  · have hf := MapKept.run_findKey (P := P) (w := w) hk h1
    refine .inl ⟨h2, ?_⟩
    simp [Builtin.delete_, h0, Sem.run_bind, run_underlying ht, MapKept.run_getObj_map hb, hck, hf, MapKept.run_setObj_map _ hb, Result.andThen, setB]
  · have hf := MapKept.run_findKey (P := P) (w := w) hk h1
    refine .inr ⟨j, e', row, h2, h3, h4, h5, h6, h7, ?_⟩
    simp [Builtin.delete_, h0, Sem.run_bind, run_underlying ht, MapKept.run_getObj_map hb, hck, hf, MapKept.run_setObj_map _ hb, Result.andThen, setB]
theorem setB_get {b : Nat} {o : Obj} (hb : b < w.heap.size) : (setB w b o).heap[b]? = some o := by simp [setB, hb]
theorem setB_ne {b c : Nat} {o : Obj} (h : c ≠ b) : (setB w b o).heap[c]? = w.heap[c]? := by simp [setB, Ne.symm h]
theorem born_modify {es : Array MapEntry} {j : Nat} {key val : Value} : (es.modify j fun e => { e with key := key, val := val }).toList.map (·.born) = es.toList.map (·.born) := by
  rw [Array.toList_modify]
  apply List.ext_getElem?
  intro i
  simp only [List.getElem?_map, List.getElem?_modify]
  cases es.toList[i]? with
  | none => rfl
  | some x => simp only [Option.map_some]; split <;> rfl
theorem pairwise_born {es es' : List MapEntry} (h : es'.map (·.born) = es.map (·.born)) (hp : es.Pairwise (fun a b => a.born ≠ b.born)) : es'.Pairwise (fun a b => a.born ≠ b.born) := by
  have h1 : (es.map (·.born)).Pairwise (· ≠ ·) := List.pairwise_map.2 hp
  rw [← h] at h1
  exact List.pairwise_map.1 h1
theorem lt_born {es es' : List MapEntry} {clock : Nat} (h : es'.map (·.born) = es.map (·.born)) (hp : ∀ e ∈ es, e.born < clock) : ∀ e ∈ es', e.born < clock := by
  intro e he
  have : e.born ∈ es.map (·.born) := by rw [← h]; exact List.mem_map_of_mem he
  obtain ⟨x, hx, hxe⟩ := List.mem_map.1 this
  rw [← hxe]; exact hp x hx
theorem erase_sub (es : Array MapEntry) (j : Nat) : (es.eraseIdxIfInBounds j).toList.Sublist es.toList := by
  unfold Array.eraseIdxIfInBounds
  split
  · rw [Array.toList_eraseIdx]; exact List.eraseIdx_sublist _ _
  · exact List.Sublist.refl _

/-- A map's row is laid. -/
theorem repMap_put {kk : IntKind} {ks : List CK} {sc : Bool} {A : Tab} {l : Loc} (h : RepMap kk ks sc A w l) (hsm : small kk = false) {n : Int} {xs : List Int} (hx : okRow ks xs) {t k e : TypeId} (ht : P.underlying t = some (.map k e)) (hk : P.underlying k = some (.int kk)) :
    ∃ w', (Instr.mapUpdate t (.map (some l.blk)) (.int kk n) (mapVal ks sc xs)).run P w = .ok () w' ∧ (∃ o, w' = setB w l.blk o) ∧ RepMap kk ks sc (putK A (n :: xs)) w' l := by
  obtain ⟨h1, h2, h3, es, clock, hb, h5, h6, h7⟩ := h
  have hlt : l.blk < w.heap.size := (Array.getElem?_eq_some_iff.1 hb).1
  have hE : Ents kk ks sc A es := ⟨h2, ⟨[], by simpa using h3⟩, h5⟩
  have hrows : ∀ row ∈ putK A (n :: xs), okRow (.i kk :: ks) row := fun row hr => by
    rcases putK_mem hr with rfl | hr
    · exact ⟨fun h => (by rw [hsm] at h; cases h), hx⟩
    · exact h3 row hr
  rcases run_update_map ht hk hb hE n (mapVal ks sc xs) with ⟨g1, g2⟩ | ⟨j, e', row, g1, g2, g3, g4, g5, g6, g7⟩
  · refine ⟨_, g2, ⟨_, rfl⟩, h1, putK_sorted h2 _, hrows, _, _, setB_get hlt, perm_push h5 (by exact g1) rfl, ?_, ?_⟩
    · rw [Array.toList_push, List.pairwise_append]
      refine ⟨h6, List.pairwise_singleton _ _, fun a ha b hb' => ?_⟩
      rw [List.mem_singleton] at hb'; subst hb'
      have := h7 a ha
      simp only; omega
    · intro a ha
      rw [Array.toList_push] at ha
      rcases List.mem_append.1 ha with ha | ha
      · have := h7 a ha; omega
      · rw [List.mem_singleton] at ha; subst ha; simp
  · refine ⟨_, g7, ⟨_, rfl⟩, h1, putK_sorted h2 _, hrows, _, _, setB_get hlt, perm_modify h2 h5 g4 g2 (by rw [g5, g6, g3]) _ (by rw [g3]; rfl) rfl, pairwise_born born_modify h6, lt_born born_modify h7⟩
theorem repMap_del {kk : IntKind} {ks : List CK} {sc : Bool} {A : Tab} {l : Loc} (h : RepMap kk ks sc A w l) (n : Int) {t k e ty : TypeId} {ts : Array TypeId} (h0 : ts[0]? = some t) (ht : P.underlying t = some (.map k e)) (hk : P.underlying k = some (.int kk)) :
    ∃ w', (Builtin.delete_ ts ty #[.map (some l.blk), .int kk n]).run P w = .ok (.tuple #[]) w' ∧ (∃ o, w' = setB w l.blk o) ∧ RepMap kk ks sc (delK A n) w' l := by
  obtain ⟨h1, h2, h3, es, clock, hb, h5, h6, h7⟩ := h
  have hlt : l.blk < w.heap.size := (Array.getElem?_eq_some_iff.1 hb).1
  have hE : Ents kk ks sc A es := ⟨h2, ⟨[], by simpa using h3⟩, h5⟩
  have hrows : ∀ row ∈ delK A n, okRow (.i kk :: ks) row := fun row hr => h3 row (delK_mem.1 hr).1
  rcases run_delete_map (ty := ty) h0 ht hk hb hE n with ⟨g1, g2⟩ | ⟨j, e', row, g1, g2, g3, g4, g5, g6, g7⟩
  · refine ⟨_, g2, ⟨_, rfl⟩, h1, h2.filter _, hrows, _, _, setB_get hlt, ?_, h6, h7⟩
    rw [delK_none g1]; exact h5
  · refine ⟨_, g7, ⟨_, rfl⟩, h1, h2.filter _, hrows, _, _, setB_get hlt, ?_, h6.sublist (erase_sub es j), fun a ha => h7 a ((erase_sub es j).subset ha)⟩
    have := perm_erase h2 h5 g4 g2 (by rw [g5, g6, g3])
    rw [g3] at this; exact this

/-! ### a map that is gone through -/
theorem iter_ents {kk : IntKind} {ks : List CK} {sc : Bool} {M : Tab} {es : Array MapEntry} {seen : Array Nat} (h2 : M.Pairwise (fun a b => hdK a < hdK b)) (h3 : ∀ row ∈ M, okRow (.i kk :: (ks ++ [.b])) row)
    (h5 : (es.toList.map fun e => (e.key, e.val, !seen.contains e.born)).Perm (M.map fun row => (Value.int kk (hdK row), mapVal ks sc row.tail, decide (lastK row = 1)))) : Ents kk ks sc M es := by
  refine ⟨h2, ⟨[.b], h3⟩, ?_⟩
  have := h5.map (fun x : Value × Value × Bool => (x.1, x.2.1))
  simp only [List.map_map] at this
  exact this
/-- The entry of a row, with its flag. -/
theorem iter_row {kk : IntKind} {ks : List CK} {sc : Bool} {M : Tab} {es : Array MapEntry} {seen : Array Nat} (h2 : M.Pairwise (fun a b => hdK a < hdK b))
    (h5 : (es.toList.map fun e => (e.key, e.val, !seen.contains e.born)).Perm (M.map fun row => (Value.int kk (hdK row), mapVal ks sc row.tail, decide (lastK row = 1)))) {e : MapEntry} (he : e ∈ es.toList) {row : List Int} (hr : row ∈ M) (hk : e.key = .int kk (hdK row)) :
    (e.key, e.val, !seen.contains e.born) = (Value.int kk (hdK row), mapVal ks sc row.tail, decide (lastK row = 1)) := by
  have := h5.mem_iff.1 (List.mem_map_of_mem (f := fun e : MapEntry => (e.key, e.val, !seen.contains e.born)) he)
  obtain ⟨r, hr', e'⟩ := List.mem_map.1 this
  simp only [Prod.mk.injEq] at e'
  have : hdK r = hdK row := by
    exact (Value.int.inj (e'.1.trans hk)).2
  rw [sorted_key h2 hr' hr this] at e'
  simp only [Prod.mk.injEq]
  exact ⟨e'.1.symm, e'.2.1.symm, e'.2.2.symm⟩
theorem okRow_last : ∀ {ks : List CK} {row : List Int}, okRow (ks ++ [.b]) row → (lastK row = 0 ∨ lastK row = 1) ∧ row = row.dropLast ++ [lastK row] ∧ okRow ks row.dropLast
  | [], row, h => by
    match row, h with
    | [n], h => exact ⟨h.1, rfl, trivial⟩
  | k :: ks, [], h => by simp [okRow] at h
  | k :: ks, n :: ns, h => by
    simp only [List.cons_append, okRow] at h
    obtain ⟨h1, h2, h3⟩ := okRow_last h.2
    have hne : ns ≠ [] := fun e => by subst e; rcases ks with _ | _ <;> simp [okRow] at h
    have e1 : lastK (n :: ns) = lastK ns := by
      unfold lastK
      cases ns with
      | nil => exact absurd rfl hne
      | cons x xs => simp
    rw [e1, List.dropLast_cons_of_ne_nil hne]
    exact ⟨h1, by rw [List.cons_append, ← h2], h.1, h3⟩
theorem lastK_app (xs : List Int) (n : Int) : lastK (xs ++ [n]) = n := by simp [lastK]
theorem rowVals_app1 : ∀ {ks : List CK} {xs : List Int} (n : Int), okRow ks xs → rowVals ks (xs ++ [n]) = rowVals ks xs
  | [], [], n, _ => rfl
  | k :: ks, x :: xs, n, h => by
    simp only [List.cons_append, rowVals]
    rw [rowVals_app1 n h.2]
  | [], _ :: _, _, h => by simp [okRow] at h
  | _ :: _, [], _, h => by simp [okRow] at h
theorem okRow_app1 : ∀ {ks : List CK} {xs : List Int} {n : Int}, okRow ks xs → (n = 0 ∨ n = 1) → okRow (ks ++ [.b]) (xs ++ [n])
  | [], [], n, _, h => ⟨h, trivial⟩
  | k :: ks, x :: xs, n, h, hn => ⟨h.1, okRow_app1 h.2 hn⟩
  | [], _ :: _, _, h, _ => by simp [okRow] at h
  | _ :: _, [], _, h, _ => by simp [okRow] at h
/-- A row's flag, by its place. -/
theorem flag_at {kk : IntKind} {ks : List CK} {row : List Int} (h : okRow (.i kk :: (ks ++ [.b])) row) : row.getD (1 + ks.length) 0 = lastK row := by
  have h1 := okRow_last (ks := .i kk :: ks) h
  have hl := okRow_len h1.2.2
  simp only [List.length_cons] at hl
  conv => lhs; rw [h1.2.1]
  rw [show 1 + ks.length = row.dropLast.length by omega]
  simp [List.getD]
/-- A row is laid in a map that is gone through: one whose key is there. -/
theorem repIter_put {kk : IntKind} {ks : List CK} {sc : Bool} {M : Tab} {ib b : Nat} (h : RepIter kk ks sc M w ib b) (hne : ib ≠ b) (hsm : small kk = false) {n : Int} {xs : List Int} (hx : okRow ks xs) (hf : 0 < (findK M n).length)
    {t k e : TypeId} (ht : P.underlying t = some (.map k e)) (hk : P.underlying k = some (.int kk)) :
    ∃ w', (Instr.mapUpdate t (.map (some b)) (.int kk n) (mapVal ks sc xs)).run P w = .ok () w' ∧ (∃ o, w' = setB w b o) ∧ RepIter kk ks sc (putK M (n :: (xs ++ [((findK M n).getD 0 []).getD (1 + ks.length) 0]))) w' ib b := by
  obtain ⟨h2, h3, es, clock, seen, hb, hi, h5, h6, h7⟩ := h
  have hlt : b < w.heap.size := (Array.getElem?_eq_some_iff.1 hb).1
  have hE := iter_ents h2 h3 h5
  rcases run_update_map ht hk hb hE n (mapVal ks sc xs) with ⟨g1, g2⟩ | ⟨j, e', row, g1, g2, g3, g4, g5, g6, g7⟩
  · rw [g1] at hf; simp at hf
  · have hfl : ((findK M n).getD 0 []).getD (1 + ks.length) 0 = lastK row := by rw [g1]; exact flag_at (h3 row g2)
    rw [hfl]
    have hr01 := (okRow_last (ks := .i kk :: ks) (h3 row g2)).1
    refine ⟨_, g7, ⟨_, rfl⟩, putK_sorted h2 _, fun r hr => ?_, _, _, seen, setB_get hlt, by rw [setB_ne hne]; exact hi, ?_, pairwise_born born_modify h6, lt_born born_modify h7⟩
    · rcases putK_mem hr with rfl | hr
      · exact ⟨fun h => (by rw [hsm] at h; cases h), okRow_app1 hx hr01⟩
      · exact h3 r hr
    · have hrow := iter_row h2 h5 (List.mem_of_getElem? g4) g2 (by rw [g5, g3])
      refine perm_modify (g := fun row => (Value.int kk (hdK row), mapVal ks sc row.tail, decide (lastK row = 1))) h2 h5 g4 g2 hrow (fun e => { e with key := .int kk n, val := mapVal ks sc xs }) (by rw [g3]; rfl) ?_
      simp only [Prod.mk.injEq] at hrow
      have e1 : lastK (n :: (xs ++ [lastK row])) = lastK row := by rw [← List.cons_append, lastK_app]
      simp only [hrow.2.2, e1, Prod.mk.injEq, and_true]
      refine ⟨rfl, ?_⟩
      simp only [List.tail_cons, mapVal, rowVals_app1 _ hx]
theorem repIter_del {kk : IntKind} {ks : List CK} {sc : Bool} {M : Tab} {ib b : Nat} (h : RepIter kk ks sc M w ib b) (hne : ib ≠ b) (n : Int) {t k e ty : TypeId} {ts : Array TypeId} (h0 : ts[0]? = some t) (ht : P.underlying t = some (.map k e)) (hk : P.underlying k = some (.int kk)) :
    ∃ w', (Builtin.delete_ ts ty #[.map (some b), .int kk n]).run P w = .ok (.tuple #[]) w' ∧ (∃ o, w' = setB w b o) ∧ RepIter kk ks sc (delK M n) w' ib b := by
  obtain ⟨h2, h3, es, clock, seen, hb, hi, h5, h6, h7⟩ := h
  have hlt : b < w.heap.size := (Array.getElem?_eq_some_iff.1 hb).1
  have hE := iter_ents h2 h3 h5
  have hrows : ∀ row ∈ delK M n, okRow (.i kk :: (ks ++ [.b])) row := fun row hr => h3 row (delK_mem.1 hr).1
  rcases run_delete_map (ty := ty) h0 ht hk hb hE n with ⟨g1, g2⟩ | ⟨j, e', row, g1, g2, g3, g4, g5, g6, g7⟩
  · refine ⟨_, g2, ⟨_, rfl⟩, h2.filter _, hrows, _, _, seen, setB_get hlt, by rw [setB_ne hne]; exact hi, ?_, h6, h7⟩
    rw [delK_none g1]; exact h5
  · refine ⟨_, g7, ⟨_, rfl⟩, h2.filter _, hrows, _, _, seen, setB_get hlt, by rw [setB_ne hne]; exact hi, ?_, h6.sublist (erase_sub es j), fun a ha => h7 a ((erase_sub es j).subset ha)⟩
    have hrow := iter_row h2 h5 (List.mem_of_getElem? g4) g2 (by rw [g5, g3])
    have := perm_erase (g := fun row => (Value.int kk (hdK row), mapVal ks sc row.tail, decide (lastK row = 1))) h2 h5 g4 g2 hrow
    rw [g3] at this; exact this

/-! ### the operations -/
theorem setB_world {b : Nat} {o : Obj} : (setB w b o).os = w.os ∧ (setB w b o).tape = w.tape ∧ (setB w b o).output = w.output := ⟨rfl, rfl, rfl⟩
theorem setB_size {b : Nat} {o : Obj} : (setB w b o).heap.size = w.heap.size := by simp [setB]
/-- The value of a row's cells. -/
theorem map_val {ks : List CK} {sc : Bool} {v : AV} {vv : Value} {xs : List Int} (hv : den Φ ρ μ v = some vv) (hs : shapeB v sc = true) (hx : ∀ vs, denL Φ ρ μ v.cells = some vs → rowVals ks xs = vs) : vv = mapVal ks sc xs := by
  cases v with
  | cv c =>
    simp only [shapeB] at hs; subst hs
    simp only [den] at hv
    have := hx [vv] (by simp [AV.cells, denL, hv])
    simp [mapVal, this]
  | agg cs =>
    simp only [shapeB, Bool.not_eq_true'] at hs; subst hs
    simp only [den, Option.map_eq_some_iff] at hv
    obtain ⟨vs, hvs, rfl⟩ := hv
    have := hx vs hvs
    simp [mapVal, this]
  | tup vs => simp [shapeB] at hs
theorem den_map {id : Nat} {vx : Value} (h : den Φ ρ μ (.cv (.m (some id))) = some vx) : ∃ lm, μ[id]? = some lm ∧ vx = .map (some lm.blk) := by
  simp only [den, denC, Option.map_eq_some_iff] at h
  obtain ⟨lm, h1, rfl⟩ := h
  exact ⟨lm, h1, rfl⟩
theorem update_ok (hM : MRel Φ ρ μ B s.m w) (hp : holds Φ ρ pc) {t : TypeId} {x k v : AV} {ws : List (List SB × Mem)} {vx vk vv : Value} (h : updateOp P s pc t x k v = some ws) (hx : den Φ ρ μ x = some vx) (hk : den Φ ρ μ k = some vk) (hv : den Φ ρ μ v = some vv) :
    ∃ pc' m w', (pc', m) ∈ ws ∧ holds Φ ρ pc' ∧ (Instr.mapUpdate t vx vk vv).run P w = .ok () w' ∧ MRel Φ ρ μ B m w' := by
  unfold updateOp at h
  split at h
  case h_2 => cases h
  rename_i kt kk e ks sc id k' n hmt
  obtain ⟨ht, hkt, hfl, hag⟩ := mapTy_ok hmt
  split at h
  case h_2 => cases h
  rename_i i it kk' ks' sc' A hat
  split at h
  case isFalse => cases h
  rename_i hc
  obtain ⟨rfl, rfl, rfl, rfl, hsh, hsm⟩ := hc
  obtain ⟨lm, hl, rfl⟩ := den_map hx
  simp only [den, denC, Option.some.injEq] at hk
  subst hk
  obtain ⟨l, hli, hown, hcase, _⟩ := mapAt_ok hM hat hl
  have hnt : ∀ vs, v ≠ .tup vs := fun vs e => by subst e; simp [shapeB] at hsh
  have hcells := den_cells hv hnt
  split at h
  · rename_i hit
    split at h
    case isFalse => cases h
    rename_i hkn
    simp only [Option.map_eq_some_iff] at h
    obtain ⟨rows, hrows, rfl⟩ := h
    obtain ⟨pc', xs, hmem, hp', hxv, hxr⟩ := rowI_ok hp hrows hcells
    have hvv := map_val (ks := ks') hv hsh (xs := xs.map (·.ev Φ ρ)) (fun vs hvs => by rw [hcells] at hvs; cases hvs; exact hxv)
    rcases hcase with ⟨h1, _⟩ | ⟨_, cur, ho, hO⟩
    · rw [hit] at h1; cases h1
    obtain ⟨o1, o2, lm', o3, o4, o5, o6, _, o7⟩ := hO
    rw [hl] at o3; cases o3
    have hfound : 0 < (findK (A.ev Φ ρ) (n.ev Φ ρ)).length := by
      have := known_ok Φ ρ hp _ _ hkn
      simpa using this
    obtain ⟨w', hrun, ⟨ob, hw'⟩, hrep⟩ := repIter_put o7 o6 hsm hxr hfound ht hkt
    refine ⟨pc', _, w', List.mem_map_of_mem hmem, hp', by rw [hvv]; exact hrun, ?_⟩
    refine hM.upd ho rfl hli (fun b _ hb => ?_) (by rw [hw', setB_size]; exact Nat.le_refl _) (by rw [hw']; exact setB_world) (.inl rfl) ?_
    · rw [hw']; exact setB_ne (fun e => hb (by rw [e, o5]; simp))
    · refine ⟨o1, o2, lm, hl, o4, o5, o6, trivial, ?_⟩
      simp only [ev_mkPut, List.map_cons, List.map_append, List.map_nil, ev_mkSel, ev_mkFind, ev_c]
      exact hrep
  · rename_i hit
    have hit : it = false := by simpa using hit
    simp only [Option.map_eq_some_iff] at h
    obtain ⟨rows, hrows, rfl⟩ := h
    obtain ⟨pc', xs, hmem, hp', hxv, hxr⟩ := rowI_ok hp hrows hcells
    have hvv := map_val (ks := ks') hv hsh (xs := xs.map (·.ev Φ ρ)) (fun vs hvs => by rw [hcells] at hvs; cases hvs; exact hxv)
    rcases hcase with ⟨_, rfl, ho, hR⟩ | ⟨h1, _⟩
    case inr => rw [hit] at h1; cases h1
    obtain ⟨w', hrun, ⟨ob, hw'⟩, hrep⟩ := repMap_put hR hsm hxr ht hkt
    refine ⟨pc', _, w', List.mem_map_of_mem hmem, hp', by rw [hvv]; exact hrun, ?_⟩
    refine hM.upd ho rfl hl (fun b _ hb => ?_) (by rw [hw', setB_size]; exact Nat.le_refl _) (by rw [hw']; exact setB_world) (.inl rfl) ?_
    · rw [hw']; exact setB_ne (fun e => hb (by rw [e, hR.1]; simp))
    · show RepMap _ _ _ _ _ _
      rw [ev_mkPut]; exact hrep
theorem delete_ok (hM : MRel Φ ρ μ B s.m w) {t ty : TypeId} {ts : Array TypeId} {x k : AV} {m : Mem} {vx vk : Value} (h0 : ts[0]? = some t) (h : deleteOp P s t x k = some m) (hx : den Φ ρ μ x = some vx) (hk : den Φ ρ μ k = some vk) :
    ∃ w', (Builtin.delete_ ts ty #[vx, vk]).run P w = .ok (.tuple #[]) w' ∧ MRel Φ ρ μ B m w' := by
  unfold deleteOp at h
  split at h
  case h_2 => cases h
  rename_i kt kk e ks sc id k' n hmt
  obtain ⟨ht, hkt, hfl, hag⟩ := mapTy_ok hmt
  split at h
  case h_2 => cases h
  rename_i i it kk' ks' sc' A hat
  split at h
  case isFalse => cases h
  rename_i hc
  obtain ⟨rfl, rfl, rfl, rfl⟩ := hc
  simp only [Option.some.injEq] at h
  subst h
  obtain ⟨lm, hl, rfl⟩ := den_map hx
  simp only [den, denC, Option.some.injEq] at hk
  subst hk
  obtain ⟨l, hli, hown, hcase, _⟩ := mapAt_ok hM hat hl
  rcases hcase with ⟨rfl, rfl, ho, hR⟩ | ⟨rfl, cur, ho, hO⟩
  · obtain ⟨w', hrun, ⟨ob, hw'⟩, hrep⟩ := repMap_del (ty := ty) hR (n.ev Φ ρ) h0 ht hkt
    refine ⟨w', hrun, ?_⟩
    refine hM.upd ho rfl hl (fun b _ hb => ?_) (by rw [hw', setB_size]; exact Nat.le_refl _) (by rw [hw']; exact setB_world) (.inl rfl) ?_
    · rw [hw']; exact setB_ne (fun e => hb (by rw [e, hR.1]; simp))
    · show RepMap _ _ _ _ _ _
      rw [ev_mkDel]; exact hrep
  · obtain ⟨o1, o2, lm', o3, o4, o5, o6, _, o7⟩ := hO
    rw [hl] at o3; cases o3
    obtain ⟨w', hrun, ⟨ob, hw'⟩, hrep⟩ := repIter_del (ty := ty) o7 o6 (n.ev Φ ρ) h0 ht hkt
    refine ⟨w', hrun, ?_⟩
    refine hM.upd ho rfl hli (fun b _ hb => ?_) (by rw [hw', setB_size]; exact Nat.le_refl _) (by rw [hw']; exact setB_world) (.inl rfl) ?_
    · rw [hw']; exact setB_ne (fun e => hb (by rw [e, o5]; simp))
    · refine ⟨o1, o2, lm, hl, o4, o5, o6, trivial, ?_⟩
      rw [ev_mkDel]; exact hrep
theorem mapLen_ok (hM : MRel Φ ρ μ B s.m w) {t ty : TypeId} {x v : AV} {vx : Value} (h : mapLen P s t x = some v) (hx : den Φ ρ μ x = some vx) : ∃ u, den Φ ρ μ v = some u ∧ (Builtin.len_ #[t] ty #[vx]).run P w = .ok u w := by
  unfold mapLen at h
  split at h
  · rename_i hu
    simp at h; subst h
    simp only [den, denC, Option.some.injEq] at hx
    subst hx
    exact ⟨_, rfl, by simp [Builtin.len_, Sem.run_bind, run_underlying hu, Result.andThen, goInt]⟩
  · rename_i hu
    split at h
    · rename_i i it kk ks sc A hat
      simp at h; subst h
      obtain ⟨lm, hl, rfl⟩ := den_map hx
      obtain ⟨_, _, _, _, es, clock, hb, hE⟩ := mapAt_ok hM hat hl
      refine ⟨.int .i64 es.size, ?_, by simp [Builtin.len_, Sem.run_bind, run_underlying hu, MapKept.run_getObj_map hb, Result.andThen, goInt]⟩
      have := hE.2.2.length_eq
      simp only [List.length_map, Array.length_toList] at this
      simp [den, denC, this]
    · cases h
  · cases h
theorem makeMap_ok (hM : MRel Φ ρ μ B s.m w) {t : TypeId} {v : AV} {m : Mem} (h : makeMapOp P s t = some (v, m)) :
    ∃ ν w' x, (Instr.makeMap t none).run P w = .ok x w' ∧ den Φ ρ (μ ++ ν) v = some x ∧ MRel Φ ρ (μ ++ ν) B m w' := by
  unfold makeMapOp at h
  split at h
  case h_2 => cases h
  rename_i kk ks sc hmt
  simp only [Option.some.injEq, Prod.mk.injEq] at h
  obtain ⟨rfl, rfl⟩ := h
  refine ⟨[⟨w.heap.size, 0, 0, 0, false, [w.heap.size]⟩], w.alloc (.map #[] 0), .map (some w.heap.size), ?_, ?_, ?_⟩
  · simp [Instr.makeMap, Sem.run_bind, Result.andThen]
  · simp only [den, denC]
    rw [← hM.len, List.getElem?_append_right (Nat.le_refl _)]; simp
  · refine hM.push (fun b hb => heap_alloc_lt w _ hb) (by rw [World.size_alloc]; omega) ⟨rfl, rfl, rfl⟩ (by simp) ?_
    · refine ⟨rfl, by simp, by simp, #[], 0, ?_, by simp, by simp, by simp⟩
      exact (MapKept.heap_alloc w _).1

theorem flag_sorted {A : Tab} (hA : ∀ row ∈ A, row ≠ []) (h : A.Pairwise (fun a b => hdK a < hdK b)) : (flagT A).Pairwise (fun a b => hdK a < hdK b) := by
  unfold flagT
  rw [List.pairwise_map]
  refine h.imp_of_mem fun ha hb hab => ?_
  rename_i x y
  have e : ∀ r : List Int, r ≠ [] → hdK (r ++ [1]) = hdK r := fun r hr => by cases r with | nil => exact absurd rfl hr | cons => rfl
  rw [e x (hA x ha), e y (hA y hb)]; exact hab
theorem range_ok (hM : MRel Φ ρ μ B s.m w) {t : TypeId} {x v : AV} {m : Mem} {vx : Value} (h : rangeOp P s t x = some (v, m)) (hx : den Φ ρ μ x = some vx) :
    ∃ ν w' u, (Instr.range t vx).run P w = .ok u w' ∧ den Φ ρ (μ ++ ν) v = some u ∧ MRel Φ ρ (μ ++ ν) B m w' := by
  unfold rangeOp at h
  split at h
  case h_2 => cases h
  rename_i kt kk e ks sc id hmt
  obtain ⟨ht, hkt, _, _⟩ := mapTy_ok hmt
  split at h
  case h_2 => cases h
  rename_i kk' ks' sc' A ho
  split at h
  case isFalse => cases h
  rename_i hc
  obtain ⟨rfl, rfl, rfl⟩ := hc
  simp only [Option.some.injEq, Prod.mk.injEq] at h
  obtain ⟨rfl, rfl⟩ := h
  obtain ⟨lm, hl, rfl⟩ := den_map hx
  have hR : RepMap kk' ks' sc' (A.ev Φ ρ) w lm := hM.obj id _ lm ho hl
  have hR' := hR
  obtain ⟨h1, h2, h3, es, clock, hb, h5, h6, h7⟩ := hR
  have hlt : lm.blk < w.heap.size := (Array.getElem?_eq_some_iff.1 hb).1
  have hne : ∀ row ∈ A.ev Φ ρ, row ≠ [] := fun row hr e => by have := h3 row hr; rw [e] at this; simp [okRow] at this
  have hsz : (w.alloc (.mapIter (some lm.blk) clock #[] clock)).heap.size = w.heap.size + 1 := World.size_alloc ..
  refine ⟨[⟨w.heap.size, 0, 0, 0, false, [w.heap.size, lm.blk]⟩], w.alloc (.mapIter (some lm.blk) clock #[] clock), .pointer (some ⟨w.heap.size, 0, none⟩), ?_, ?_, ?_⟩
  · simp [Instr.range, Sem.run_bind, run_underlying ht, MapKept.run_getObj_map hb, Result.andThen]
  · simp only [den, denC, denPt]
    rw [← hM.len, List.getElem?_append_right (Nat.le_refl _)]; simp
  · refine hM.move ho rfl hl (fun b hb' _ => heap_alloc_lt w _ hb') (by omega) ⟨rfl, rfl, rfl⟩ (fun b hb' => ?_) ?_
    · simp only [List.mem_cons, List.not_mem_nil, or_false] at hb'
      rcases hb' with rfl | rfl
      · exact ⟨.inr (Nat.le_refl _), by omega⟩
      · exact ⟨.inl (by rw [h1]; simp), by omega⟩
    · refine ⟨rfl, rfl, lm, get_app hl, h1, rfl, by simp only; omega, trivial, ?_⟩
      rw [ev_mkFlag]
      refine ⟨flag_sorted hne h2, fun row hr => ?_, es, clock, #[], ?_, ?_, ?_, h6, h7⟩
      · obtain ⟨r, hr', rfl⟩ := List.mem_map.1 hr
        exact okRow_app1 (ks := .i kk' :: ks') (h3 r hr') (.inr rfl)
      · rw [heap_alloc_lt w _ hlt]; exact hb
      · exact (MapKept.heap_alloc w _).1
      · unfold flagT
        rw [List.map_map]
        have e1 : (A.ev Φ ρ).map ((fun row => (Value.int kk' (hdK row), mapVal ks' sc' row.tail, decide (lastK row = 1))) ∘ fun x => x ++ [1]) = (A.ev Φ ρ).map fun row => (Value.int kk' (hdK row), mapVal ks' sc' row.tail, true) := by
          apply List.map_congr_left
          intro r hr
          obtain ⟨g1, g2⟩ := okRow_key (h3 r hr)
          show (Value.int kk' (hdK (r ++ [1])), mapVal ks' sc' (r ++ [1]).tail, decide (lastK (r ++ [1]) = 1)) = _
          rw [lastK_app, g1]
          simp only [List.cons_append, List.tail_cons, mapVal, rowVals_app1 _ g2]
          rfl
        rw [e1]
        have := h5.map (fun x : Value × Value => (x.1, x.2, true))
        simp only [List.map_map] at this
        have e2 : (es.toList.map fun e => (e.key, e.val, !(#[] : Array Nat).contains e.born)) = es.toList.map fun e => (e.key, e.val, true) := by
          apply List.map_congr_left; intro e _; simp
        rw [e2]
        exact this

/-- A row with flag 1, where some is. -/
theorem next_rows {es : List MapEntry} {clock : Nat} {seen : Array Nat} (h7 : ∀ e ∈ es, e.born < clock) : (es.filter fun e => !seen.contains e.born).filter (fun e => decide (e.born < clock)) = es.filter (fun e => !seen.contains e.born) ∧ (es.filter fun e => !seen.contains e.born).filter (fun e => decide (e.born ≥ clock)) = [] := by
  constructor
  · rw [List.filter_eq_self]
    intro e he
    simpa using h7 e (List.mem_filter.1 he).1
  · refine filter_none fun e he => ?_
    have := h7 e (List.mem_filter.1 he).1
    rw [decide_eq_false_iff_not]; omega
theorem run_getObj_iter {r : Nat} {m : Option Nat} {a c : Nat} {sn : Array Nat} (hb : w.heap[r]? = some (.mapIter m a sn c)) : (getObj r).run P w = .ok (.mapIter m a sn c) w := by
  simp [getObj, Sem.run, hb]
theorem run_setObj_iter {r : Nat} {m : Option Nat} {a c : Nat} {sn : Array Nat} (o : Obj) (hb : w.heap[r]? = some (.mapIter m a sn c)) : (setObj r o).run P w = .ok () (setB w r o) := by
  simp [setObj, Sem.run, hb, setB]

theorem born_inj {es : List MapEntry} (h : es.Pairwise (fun a b => a.born ≠ b.born)) {x y : MapEntry} (hx : x ∈ es) (hy : y ∈ es) (e : x.born = y.born) : x = y := by
  induction es with
  | nil => cases hx
  | cons z es ih =>
    have h' := List.pairwise_cons.1 h
    rcases List.mem_cons.1 hx with e1 | h1 <;> rcases List.mem_cons.1 hy with e2 | h2
    · rw [e1, e2]
    · rw [e1] at e; exact absurd e (h'.1 _ h2)
    · rw [e2] at e; exact absurd e.symm (h'.1 _ h1)
    · exact ih h'.2 h1 h2
theorem nodup_inj {α β : Type} {f : α → β} : ∀ {l : List α}, (l.map f).Nodup → ∀ {x y : α}, x ∈ l → y ∈ l → f x = f y → x = y
  | [], _, _, _, hx, _, _ => by cases hx
  | z :: l, h, x, y, hx, hy, e => by
    simp only [List.map_cons, List.nodup_cons] at h
    rcases List.mem_cons.1 hx with e1 | h1 <;> rcases List.mem_cons.1 hy with e2 | h2
    · rw [e1, e2]
    · exact absurd (by rw [← e1, e]; exact List.mem_map_of_mem h2) h.1
    · exact absurd (by rw [← e2, ← e]; exact List.mem_map_of_mem h1) h.1
    · exact nodup_inj h.2 h1 h2 e
theorem key_inj {kk : IntKind} {ks : List CK} {sc : Bool} {M : Tab} {es : Array MapEntry} (h : Ents kk ks sc M es) {x y : MapEntry} (hx : x ∈ es.toList) (hy : y ∈ es.toList) (e : x.key = y.key) : x = y := by
  have h1 : (es.toList.map (·.key)).Perm (M.map fun row => Value.int kk (hdK row)) := by
    have := h.2.2.map (fun x : Value × Value => x.1)
    simp only [List.map_map] at this
    exact this
  have h2 : (M.map fun row => Value.int kk (hdK row)).Nodup := by
    refine List.pairwise_map.2 (h.1.imp fun hab e => ?_)
    have := (Value.int.inj e).2
    omega
  exact nodup_inj (h1.nodup_iff.2 h2) hx hy e
theorem entry_ok (hM : MRel Φ ρ μ B s.m w) {x v : AV} {vx : Value} (h : entryOp s x = some v) (hx : den Φ ρ μ x = some vx) :
    ∃ u, den Φ ρ μ v = some u ∧ (Instr.entry vx).run P w = .ok u w := by
  unfold entryOp at h
  split at h
  case h_2 => cases h
  rename_i p
  split at h
  case h_2 => cases h
  rename_i mid kk ks sc M k ho hr
  split at h
  case isFalse => cases h
  rename_i hj
  have hj := Nat.eq_of_beq_eq_true hj
  simp only [Option.map_eq_some_iff] at h
  obtain ⟨rv, hrv, rfl⟩ := h
  obtain ⟨l, hl⟩ := obj_loc hM ho
  have hO := hM.obj p.id _ l ho hl
  obtain ⟨o1, o2, lm, o3, o4, o5, o6, ocur, p2, p3, es, clock, seen, hb, hi, p5, p6, p7⟩ := hO
  obtain ⟨es', clock', seen', e, c1, c2, he, hk, hs⟩ := ocur
  rw [hb] at c1; cases c1
  rw [hi] at c2; cases c2
  obtain ⟨ad, had, rfl⟩ := den_ptr hx
  have had := denPt_cells had hl o1 o2
  subst had
  rw [hj]
  have hE := iter_ents p2 p3 p5
  obtain ⟨row, hrow, hkey, hval⟩ := hE.key he
  have hkk : hdK row = k.ev Φ ρ := by
    rw [hkey] at hk
    exact (Value.int.inj hk).2
  have hfind : findK (M.ev Φ ρ) (hdK row) = [row] := findK_one p2 hrow
  obtain ⟨vs, hvs, hcase⟩ := find_cells (Φ := Φ) (ρ := ρ) (μ := μ) (A := M) hE k
  rw [← hkk, hfind] at hcase
  have hvs' : vs = rowVals ks row.tail := by
    rcases hcase with ⟨h1, _⟩ | ⟨row', _, h1, _, h2⟩
    · cases h1
    · cases h1; exact h2
  have hd := rowV_ok hrv hvs
  have hv : (if sc then vs.headD undef else Value.agg vs.toArray) = e.val := by rw [hval, hvs']; rfl
  rw [hv] at hd
  have hf : es.find? (·.born == e.born) = some e := by
    have hmem : e ∈ es := Array.mem_toList_iff.1 he
    cases hf : es.find? (·.born == e.born) with
    | none =>
      have := Array.find?_eq_none.1 hf e hmem
      simp at this
    | some e2 =>
      have h1 := Array.find?_some hf
      have h2 := Array.mem_of_find?_eq_some hf
      rw [born_inj p6 (Array.mem_toList_iff.2 h2) he (by simpa using h1)]
  refine ⟨.tuple #[e.key, e.val], ?_, ?_⟩
  · simp only [den, Option.map_eq_some_iff]
    refine ⟨[e.key, e.val], ?_, rfl⟩
    have hk' : denC Φ ρ μ (.i kk k) = some e.key := by simp only [denC, hkey, hkk]
    cases rv with
    | inl c =>
      simp only [denT] at hd ⊢
      cases hc : denC Φ ρ μ c with
      | none => rw [hc] at hd; cases hd
      | some y => rw [hc] at hd; simp at hd; subst hd; simp [hk']
    | inr cs =>
      simp only [denT] at hd ⊢
      cases hc : denL Φ ρ μ cs with
      | none => rw [hc] at hd; cases hd
      | some y => rw [hc] at hd; simp at hd; simp [hk', ← hd]
  · simp only [Instr.entry, Sem.run_bind, run_getObj_iter hi, Result.andThen_ok, hs, MapKept.run_getObj_map hb, bne_self_eq_false, Bool.false_eq_true, if_false, hf, Sem.run_pure]
theorem clr_hd {ks : List CK} {kk : IntKind} {row : List Int} (h : okRow (.i kk :: (ks ++ [.b])) row) : hdK (row.dropLast ++ [0]) = hdK row ∧ (row.dropLast ++ [0]).tail.take ks.length = row.tail.take ks.length := by
  have h1 := okRow_last (ks := .i kk :: ks) h
  obtain ⟨h2, h3⟩ := okRow_key h1.2.2
  have hl := okRow_len h3
  have e : row = row.dropLast ++ [lastK row] := h1.2.1
  constructor
  · conv => rhs; rw [e]
    rw [h2]; rfl
  · conv => rhs; rw [e]
    rw [h2]
    simp only [List.cons_append, List.tail_cons]
    rw [List.take_append_of_le_length (by omega), List.take_append_of_le_length (by omega)]
theorem rowVals_take : ∀ (ks : List CK) (row : List Int), rowVals ks row = rowVals ks (row.take ks.length)
  | [], row => by cases row <;> rfl
  | k :: ks, [] => rfl
  | k :: ks, n :: ns => by simp only [List.length_cons, List.take_succ_cons, rowVals]; rw [rowVals_take ks ns]
theorem clr_sorted {kk : IntKind} {ks : List CK} {M : Tab} (h3 : ∀ row ∈ M, okRow (.i kk :: (ks ++ [.b])) row) (h : M.Pairwise (fun a b => hdK a < hdK b)) (n : Int) : (clrT M n).Pairwise (fun a b => hdK a < hdK b) := by
  unfold clrT
  rw [List.pairwise_map]
  refine h.imp_of_mem fun {x y} hx hy hxy => ?_
  have e : ∀ r ∈ M, hdK (if hdK r = n then r.dropLast ++ [0] else r) = hdK r := fun r hr => by
    split
    · exact (clr_hd (h3 r hr)).1
    · rfl
  rw [e x hx, e y hy]; exact hxy

theorem run_choose_map (n : Nat) (hn : 0 < n) : ∃ i w1, i < n ∧ (choose (.mapNext n)).run P w = .ok i w1 ∧ w1.heap = w.heap ∧ (w1.os = w.os ∧ w1.tape = w.tape ∧ w1.output = w.output) := by
  by_cases h : n ≤ 1
  · exact ⟨0, w, hn, by simp [choose, Sem.run, Question.forced, h], rfl, rfl, rfl, rfl⟩
  · exact ⟨w.tape w.drawn (.mapNext n) % n, { w with drawn := w.drawn + 1 }, Nat.mod_lt _ hn, by simp [choose, Sem.run, Question.forced, h, Question.cut], rfl, rfl, rfl, rfl⟩
theorem next_ok (hM : MRel Φ ρ μ B s.m w) (hp : holds Φ ρ pc) {x : AV} {outs : List (List SB × Option (AV × Mem))} {vx : Value} (ty : TypeId) (h : nextOp s pc x = some outs) (hx : den Φ ρ μ x = some vx) :
    ∃ pc' v m' ρ' w' u, (pc', some (v, m')) ∈ outs ∧ (s.m.nx ≤ m'.nx ∧ AgrB s.m.nx ρ ρ' ∧ (m'.nx = s.m.nx → ρ' = ρ)) ∧ holds Φ ρ' pc' ∧ (Instr.next vx false ty).run P w = .ok u w' ∧ den Φ ρ' μ v = some u ∧ MRel Φ ρ' μ B m' w' := by
  unfold nextOp at h
  split at h
  case h_2 => cases h
  rename_i p
  split at h
  case h_2 => cases h
  rename_i mid kk ks sc M cur0 ho hr
  split at h
  case isFalse => cases h
  rename_i hc
  simp only [Bool.and_eq_true] at hc
  obtain ⟨⟨⟨hj, h1000⟩, hbl⟩, hpcb⟩ := hc
  have hj := Nat.eq_of_beq_eq_true hj
  split at h
  case h_2 => cases h
  rename_i rv hrv
  simp only [Option.some.injEq] at h
  subst h
  obtain ⟨l, hl⟩ := obj_loc hM ho
  have hO := hM.obj p.id _ l ho hl
  obtain ⟨o1, o2, lm, o3, o4, o5, o6, ocur, p2, p3, es, clock, seen, hb, hi, p5, p6, p7⟩ := hO
  obtain ⟨ad, had, rfl⟩ := den_ptr hx
  have had := denPt_cells had hl o1 o2
  subst had
  rw [hj]
  have hE := iter_ents p2 p3 p5
  obtain ⟨r1, r2⟩ := next_rows (es := es.toList) (seen := seen) p7
  have hMb : M.bl s.m.nx = true := by
    have := List.all_eq_true.1 hbl _ (List.mem_of_getElem? ho)
    simp only [AObj.bl, Bool.and_eq_true] at this
    exact this.1
  -- what the candidates are
  have hleft : (es.filter fun e => !seen.contains e.born).toList = es.toList.filter fun e => !seen.contains e.born := by simp
  have hold : (es.filter fun e => !seen.contains e.born).filter (fun e => decide (e.born < clock)) = es.filter fun e => !seen.contains e.born := by
    apply Array.ext'; simp only [Array.toList_filter]; exact r1
  have hnew : (es.filter fun e => !seen.contains e.born).filter (fun e => decide (e.born ≥ clock)) = #[] := by
    apply Array.ext'; simp only [Array.toList_filter]; exact r2
  have hguard : (!seen.isEmpty && !es.isEmpty && es.all fun e => decide (e.born ≥ clock)) = false := by
    cases he : es.isEmpty with
    | true => simp
    | false =>
      have : es.all (fun e => decide (e.born ≥ clock)) = false := by
        rw [Bool.eq_false_iff]
        intro hall
        have hsz : 0 < es.size := by
          rcases Nat.eq_zero_or_pos es.size with h0 | h0
          · rw [Array.size_eq_zero_iff] at h0; subst h0; simp at he
          · exact h0
        have h1 := p7 es[0] (by simp)
        have h2 := Array.all_eq_true.1 hall 0 hsz
        simp at h2; omega
      simp [this]
  by_cases hempty : es.toList.filter (fun e => !seen.contains e.born) = []
  · -- none is left
    have hfe : (es.filter fun e => !seen.contains e.born) = #[] := by apply Array.ext'; simpa using hempty
    have hrem : remT (M.ev Φ ρ) = [] := by
      refine filter_none fun row hrow => ?_
      rw [decide_eq_false_iff_not]
      intro hone
      have := p5.mem_iff.2 (List.mem_map_of_mem (f := fun row => (Value.int kk (hdK row), mapVal ks sc row.tail, decide (lastK row = 1))) hrow)
      obtain ⟨e, he, hee⟩ := List.mem_map.1 this
      simp only [Prod.mk.injEq, hone, decide_true] at hee
      have : e ∈ es.toList.filter (fun e : MapEntry => !seen.contains e.born) := List.mem_filter.2 ⟨he, hee.2.2⟩
      rw [hempty] at this; cases this
    refine ⟨_, _, s.m, ρ, w, .tuple #[.bool false], List.mem_cons_self .., ⟨Nat.le_refl _, .refl, fun _ => rfl⟩, ?_, ?_, rfl, hM⟩
    · refine holds_cons Φ ρ ?_ hp
      simp [ev_len, hrem]
    · simp only [Instr.next, Sem.run_bind, run_getObj_iter hi, Result.andThen_ok, MapKept.run_getObj_map hb, hguard, hfe, Bool.false_eq_true, if_false]
      simp [choose, Sem.run, Question.forced, Result.andThen]
  · -- one of them
    have hfe : (es.filter fun e => !seen.contains e.born) ≠ #[] := fun e => hempty (by rw [← hleft, e])
    have hpos : 0 < (es.filter fun e => !seen.contains e.born).size := by
      rcases Nat.eq_zero_or_pos (es.filter fun e => !seen.contains e.born).size with h0 | h0
      · exact absurd (Array.size_eq_zero_iff.1 h0) hfe
      · exact h0
    obtain ⟨i, w1, hi1, hch, hheap, hos⟩ := run_choose_map (P := P) (w := w) (es.filter fun e => !seen.contains e.born).size hpos
    obtain ⟨e, hei⟩ : ∃ e, (es.filter fun e => !seen.contains e.born)[i]? = some e := ⟨_, Array.getElem?_eq_getElem hi1⟩
    have hemem : e ∈ es.toList ∧ (!seen.contains e.born) = true := by
      have : e ∈ (es.filter fun e => !seen.contains e.born).toList := by
        rw [Array.mem_toList_iff]; exact Array.mem_of_getElem? hei
      rw [hleft] at this
      exact List.mem_filter.1 this
    obtain ⟨row, hrow, hkey, hval⟩ := hE.key hemem.1
    have htri := iter_row p2 p5 hemem.1 hrow hkey
    simp only [Prod.mk.injEq] at htri
    have hone : lastK row = 1 := by
      have := htri.2.2
      rw [hemem.2] at this
      simpa using this.symm
    let ρ' : Env := ⟨fun k => if k = s.m.nx then hdK row else ρ.i k, ρ.b, ρ.l⟩
    have hag : AgrB s.m.nx ρ ρ' := ⟨fun k hk => by simp only [ρ']; rw [if_neg (by omega)], fun _ _ => rfl, fun _ _ => rfl⟩
    have hMev : M.ev Φ ρ' = M.ev Φ ρ := evL_bl hag M hMb
    have hnx : (SI.v s.m.nx).ev Φ ρ' = hdK row := by simp [ρ']
    have hfind : findK (M.ev Φ ρ) (hdK row) = [row] := findK_one p2 hrow
    have hM' : MRel Φ ρ' μ B s.m w := hM.bl hag hbl
    obtain ⟨vs, hvs, hcase⟩ := find_cells (Φ := Φ) (ρ := ρ') (μ := μ) (A := M) (by rw [hMev]; exact hE) (.v s.m.nx)
    rw [hMev, hnx, hfind] at hcase
    have hvs' : vs = rowVals ks row.tail := by
      rcases hcase with ⟨h1, _⟩ | ⟨row', _, h1, _, h2⟩
      · cases h1
      · cases h1; exact h2
    refine ⟨_, _, _, ρ', setB w1 l.blk (.mapIter (some lm.blk) clock (seen.push e.born) clock), .tuple #[.bool true, e.key, e.val], List.mem_cons_of_mem _ (List.mem_cons_self ..), ⟨by simp only; omega, hag, fun e => by simp only at e; omega⟩, ?_, ?_, ?_, ?_⟩
    · have hrem : 0 < (remT (M.ev Φ ρ)).length := by
        refine List.length_pos_of_mem (a := row) ?_
        unfold remT
        exact List.mem_filter.2 ⟨hrow, by rw [hone]; rfl⟩
      refine holds_cons Φ ρ' ?_ (holds_cons Φ ρ' ?_ (holds_cons Φ ρ' ?_ (holds_cons Φ ρ' ?_ (holds_app Φ ρ' ?_ (holds_app Φ ρ' ?_ ((holds_bl hag hpcb).2 hp))))))
      · simp only [evB_eq, ev_sel, ev_mkFind, hMev, hnx, hfind, ev_c, decide_eq_true_eq]
        show row.getD (1 + ks.length) 0 = 1
        rw [flag_at (p3 row hrow), hone]
      · simp only [evB_eq, ev_len, ev_mkFind, hMev, hnx, hfind, ev_c, decide_eq_true_eq]; rfl
      · have hcl : (row.dropLast ++ [0]) ∈ clrT (M.ev Φ ρ) (hdK row) := List.mem_map.2 ⟨row, hrow, if_pos rfl⟩
        have hf1 := findK_one (clr_sorted p3 p2 (hdK row)) hcl
        rw [(clr_hd (p3 row hrow)).1] at hf1
        simp only [evB_eq, ev_len, ev_mkFind, ev_mkClr, hMev, hnx, hf1, ev_c, decide_eq_true_eq]; rfl
      · simp only [evB_lt, ev_len, ev_mkLeft, hMev, ev_c, decide_eq_true_eq]; omega
      · split
        · have hcl : (row.dropLast ++ [0]) ∈ clrT (M.ev Φ ρ) (hdK row) := List.mem_map.2 ⟨row, hrow, if_pos rfl⟩
          have hf1 := findK_one (clr_sorted p3 p2 (hdK row)) hcl
          rw [(clr_hd (p3 row hrow)).1] at hf1
          refine facts_ok (row := row.dropLast ++ [0]) (by rw [ev_mkFind, ev_mkClr, hMev, hnx, hf1]; rfl) 1 _ fun i k hk => ?_
          have h9 : okRow ((.i kk :: ks) ++ [.b]) (row.dropLast ++ [0]) := okRow_app1 (ks := .i kk :: ks) (okRow_last (ks := .i kk :: ks) (p3 row hrow)).2.2 (.inl rfl)
          have := okRow_get (ks := .i kk :: ks) (ms := [.b]) h9 (i + 1) k (by simpa using hk)
          rw [Nat.add_comm 1 i]
          exact this
        · intro c h; cases h
      · refine facts_ok (row := row) (by rw [ev_mkFind, hMev, hnx, hfind]; rfl) 0 _ fun i k hk => ?_
        rw [Nat.zero_add]
        exact okRow_get (ks := .i kk :: ks) (ms := [.b]) (p3 row hrow) i k hk
    · have hcand : ((if (es.filter fun (e : MapEntry) => !seen.contains e.born).isEmpty then #[none] else #[]) ++ ((es.filter fun (e : MapEntry) => !seen.contains e.born) ++ #[]).map some : Array (Option MapEntry)) = (es.filter fun (e : MapEntry) => !seen.contains e.born).map some := by
        rw [if_neg (by simpa [Array.isEmpty_iff] using hfe)]; simp
      have hsize : ((es.filter fun e => !seen.contains e.born).map some).size = (es.filter fun e => !seen.contains e.born).size := by simp
      have hget : ((es.filter fun e => !seen.contains e.born).map some)[i]? = some (some e) := by rw [Array.getElem?_map, hei]; rfl
      have hi2 : w1.heap[l.blk]? = some (.mapIter (some lm.blk) clock seen clock) := by rw [hheap]; exact hi
      simp only [Instr.next, Sem.run_bind, run_getObj_iter hi, Result.andThen_ok, MapKept.run_getObj_map hb, hguard, Bool.false_eq_true, if_false, hold, hnew, hcand, hsize, hch, hget, run_setObj_iter _ hi2, Sem.run_pure]
    · have hd := rowV_ok hrv hvs
      have hv : (if sc then vs.headD undef else Value.agg vs.toArray) = e.val := by rw [hval, hvs']; rfl
      rw [hv] at hd
      simp only [den, Option.map_eq_some_iff]
      refine ⟨[.bool true, e.key, e.val], ?_, rfl⟩
      have hk : denC Φ ρ' μ (.i kk (.v s.m.nx)) = some e.key := by simp only [denC, hnx, hkey]
      simp only [denT, denC, evB_c] at hd ⊢
      cases rv with
      | inl c =>
        simp only [denT] at hd ⊢
        cases hc : denC Φ ρ' μ c with
        | none => rw [hc] at hd; cases hd
        | some y => rw [hc] at hd; simp at hd; subst hd; simp [hnx, hkey]
      | inr cs =>
        simp only [denT] at hd ⊢
        cases hc : denL Φ ρ' μ cs with
        | none => rw [hc] at hd; cases hd
        | some y =>
          rw [hc] at hd; simp at hd
          simp [hnx, hkey, ← hd]
    · have hlt : l.blk < w1.heap.size := by rw [hheap]; exact (Array.getElem?_eq_some_iff.1 hi).1
      have := hM'.upd (o' := .iter mid kk ks sc (mkClr M (.v s.m.nx)) (some (.v s.m.nx))) (w' := setB w1 l.blk (.mapIter (some lm.blk) clock (seen.push e.born) clock)) ho rfl hl (fun b _ hb' => by rw [setB_ne (fun e => hb' (by rw [e, o5]; simp)), hheap]) (by rw [setB_size, hheap]; exact Nat.le_refl _) hos (.inl rfl) ?_
      · exact { this with }
      · refine ⟨o1, o2, lm, o3, o4, o5, o6, ⟨es, clock, seen.push e.born, e, by rw [setB_ne (Ne.symm o6), hheap]; exact hb, setB_get hlt, hemem.1, by rw [hkey]; simp only [hnx], by simp⟩, ?_⟩
        rw [ev_mkClr, hMev, hnx]
        refine ⟨clr_sorted p3 p2 _, fun r hr => ?_, es, clock, seen.push e.born, by rw [setB_ne (Ne.symm o6), hheap]; exact hb, setB_get hlt, ?_, p6, p7⟩
        · obtain ⟨r0, hr0, rfl⟩ := List.mem_map.1 hr
          split
          · exact okRow_app1 (ks := .i kk :: ks) (okRow_last (ks := .i kk :: ks) (p3 r0 hr0)).2.2 (.inl rfl)
          · exact p3 r0 hr0
        · classical
          have := p5.map (fun x : Value × Value × Bool => (x.1, x.2.1, if x.1 = .int kk (hdK row) then false else x.2.2))
          simp only [List.map_map] at this
          unfold clrT
          rw [List.map_map]
          have e1 : es.toList.map (fun x => (x.key, x.val, !(seen.push e.born).contains x.born)) = es.toList.map ((fun x : Value × Value × Bool => (x.1, x.2.1, if x.1 = .int kk (hdK row) then false else x.2.2)) ∘ fun e => (e.key, e.val, !seen.contains e.born)) := by
            apply List.map_congr_left
            intro x hx
            simp only [Function.comp]
            by_cases hxe : x = e
            · subst hxe
              rw [if_pos hkey]; simp
            · have hb1 : x.born ≠ e.born := fun h => hxe (born_inj p6 hx hemem.1 h)
              have hk1 : x.key ≠ .int kk (hdK row) := fun h => hxe (key_inj hE hx hemem.1 (h.trans hkey.symm))
              rw [if_neg hk1]
              simp [hb1]
          have e2 : (M.ev Φ ρ).map ((fun row => (Value.int kk (hdK row), mapVal ks sc row.tail, decide (lastK row = 1))) ∘ fun r => if hdK r = hdK row then r.dropLast ++ [0] else r) = (M.ev Φ ρ).map ((fun x : Value × Value × Bool => (x.1, x.2.1, if x.1 = .int kk (hdK row) then false else x.2.2)) ∘ fun row => (Value.int kk (hdK row), mapVal ks sc row.tail, decide (lastK row = 1))) := by
            apply List.map_congr_left
            intro r hr
            simp only [Function.comp]
            by_cases hk1 : hdK r = hdK row
            · have := (clr_hd (p3 r hr)).2
              have e3 : mapVal ks sc (r.dropLast ++ [0]).tail = mapVal ks sc r.tail := by
                have e5 : rowVals ks (r.dropLast ++ [0]).tail = rowVals ks r.tail :=
                  (rowVals_take ks _).trans ((congrArg (rowVals ks) this).trans (rowVals_take ks _).symm)
                unfold mapVal
                simp only [e5]
              have e4 : Value.int kk (hdK r) = Value.int kk (hdK row) := by rw [hk1]
              simp only [if_pos hk1, if_pos e4, (clr_hd (p3 r hr)).1, lastK_app, e3]
              rfl
            · have e4 : ¬ Value.int kk (hdK r) = Value.int kk (hdK row) := fun h => hk1 (Value.int.inj h).2
              simp only [if_neg hk1, if_neg e4]
          rw [e1, e2]
          exact this
end
end Go.SF
