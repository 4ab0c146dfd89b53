/- Each operation that calls nothing does what the machine of unknowns says. -/
import Derived.Test.YtfngkeegfjihlaaSFEq
namespace Go.SF
set_option linter.unusedVariables false
set_option linter.unusedSimpArgs false

section
variable {Φ : Sig} {ρ : Env} {μ : List Loc} {P : Program} {B : Base} {w : World} {s : St} {a : Act} {pc : List SB}

theorem den_agg {cs : List CV} {x : Value} (h : den Φ ρ μ (.agg cs) = some x) : ∃ vs, denL Φ ρ μ cs = some vs ∧ x = .agg vs.toArray := by
  simp only [den, Option.map_eq_some_iff] at h
  obtain ⟨vs, hv, rfl⟩ := h
  exact ⟨vs, hv, rfl⟩

theorem ev_mkCatS (a b : SI) : (mkCatS a b).ev Φ ρ = catS (a.ev Φ ρ) (b.ev Φ ρ) := by
  unfold mkCatS
  split
  · simp
  · simp [ev_app, appI_std, stdI]
theorem ev_mkLenS : ∀ (d : Nat) (a : SI), (mkLenS d a).ev Φ ρ = lenS (a.ev Φ ρ) := by
  intro d a
  fun_induction mkLenS d a <;> simp_all [ev_app, appI_std, stdI, lenS, strB_cat, ofB, ints, strB_enc]
theorem ev_mkAtS (a i : SI) : (mkAtS a i).ev Φ ρ = atS (a.ev Φ ρ) (i.ev Φ ρ) := by
  unfold mkAtS
  split
  · simp
  · simp [ev_app, appI_std, stdI]
theorem ev_mkSubS (a lo hi : SI) : (mkSubS a lo hi).ev Φ ρ = subS (a.ev Φ ρ) (lo.ev Φ ρ) (hi.ev Φ ρ) := by
  unfold mkSubS
  split
  · simp
  · simp [ev_app, appI_std, stdI]
theorem binop_ok (hp : holds Φ ρ pc) {op : BinOp} {t : TypeId} {x y v : AV} {vx vy : Value} (ox oy : Operand) (h : binop P pc op t x y = some v) (hx : den Φ ρ μ x = some vx) (hy : den Φ ρ μ y = some vy) :
    ∃ u, den Φ ρ μ v = some u ∧ (eqGuard op t ox oy vx vy).run P w = .ok () w ∧ (binOp op t vx vy).run P w = .ok u w := by
  unfold binop at h
  split at h
  · -- ints
    rename_i k p l q
    split at h
    · rename_i hk
      subst hk
      simp only [Option.map_eq_some_iff] at h
      obtain ⟨c, hc, rfl⟩ := h
      simp [den, denC] at hx hy
      subst hx hy
      obtain ⟨u, hu, hr⟩ := binI_ok hp (Φ := Φ) (ρ := ρ) (μ := μ) (P := P) (w := w) hc t
      refine ⟨u, hu, ?_, hr⟩
      cases op <;> simp [eqGuard]
    · cases h
  · -- bools
    rename_i p q
    simp [den, denC] at hx hy
    subst hx hy
    split at h
    · split at h
      · rename_i hu
        simp at h; subst h
        refine ⟨_, rfl, by simp [eqGuard], ?_⟩
        have hu' : P.underlying t = some .bool := by
          cases hh : P.underlying t with
          | none => rw [hh] at hu; simp at hu
          | some d => cases d <;> rw [hh] at hu <;> simp at hu
        simp [binOp, Op.equal, Op.maxDepth, run_equalIn_bool' w 9999 t _ _ hu', Sem.run_bind]
      · cases h
    · split at h
      · rename_i hu
        simp at h; subst h
        refine ⟨_, rfl, by simp [eqGuard], ?_⟩
        have hu' : P.underlying t = some .bool := by
          cases hh : P.underlying t with
          | none => rw [hh] at hu; simp at hu
          | some d => cases d <;> rw [hh] at hu <;> simp at hu
        simp [binOp, Op.equal, Op.maxDepth, run_equalIn_bool' w 9999 t _ _ hu', Sem.run_bind]
      · cases h
    · cases h
  · -- strings
    rename_i p q
    simp [den, denC] at hx hy
    subst hx hy
    have key : leO (loOf pc p) 0 = true → leO (loOf pc q) 0 = true → (strB (p.ev Φ ρ) == strB (q.ev Φ ρ)) = decide (p.ev Φ ρ = q.ev Φ ρ) := by
      intro h1 h2
      obtain ⟨m, hm, h1⟩ := leO_ok h1
      obtain ⟨n, hn, h2⟩ := leO_ok h2
      have h3 := lo_ok Φ ρ hp hm; have h4 := lo_ok Φ ρ hp hn
      rw [Bool.eq_iff_iff]
      simp only [beq_iff_eq, decide_eq_true_eq]
      exact ⟨fun e => strB_inj (by omega) (by omega) e, fun e => by rw [e]⟩
    split at h
    · split at h
      · rename_i hk
        rw [Bool.and_eq_true] at hk
        simp at h; subst h
        refine ⟨_, rfl, by simp [eqGuard, qVal], ?_⟩
        simp [binOp, Op.stringOp, qVal, beq_toListBytes, key hk.1 hk.2]
      · cases h
    · split at h
      · rename_i hk
        rw [Bool.and_eq_true] at hk
        simp at h; subst h
        refine ⟨_, rfl, by simp [eqGuard, qVal], ?_⟩
        simp [binOp, Op.stringOp, qVal, beq_toListBytes, key hk.1 hk.2]
      · cases h
    · split at h
      · rename_i hk
        simp at h; subst h
        refine ⟨_, rfl, by simp [eqGuard, qVal], ?_⟩
        obtain ⟨m, hm, h1⟩ := leO_ok hk
        have h3 := hi_ok Φ ρ hp hm
        simp [ev_mkLenS, lenS] at h3
        simp only [binOp, qVal, Op.stringOp]
        rw [if_neg (by simp [ByteArray.size, IntKind.max, IntKind.bits, IntKind.signed]; omega)]
        simp only [Sem.run_pure, ev_mkCatS, strB_cat]
        congr 2
      · cases h
    · cases h
  · -- a pointer and nil
    rename_i p
    simp [den, denC] at hy
    subst hy
    have hp : ∃ q : Option Addr, vx = .pointer q ∧ q.isNone = p.isNone := by
      cases p with
      | none => simp [den, denC] at hx; subst hx; exact ⟨none, rfl, rfl⟩
      | some p =>
        simp only [den, denC, Option.map_eq_some_iff] at hx
        obtain ⟨q, _, rfl⟩ := hx
        exact ⟨some q, rfl, rfl⟩
    obtain ⟨q, rfl, hq⟩ := hp
    have key : ∀ e, P.underlying t = some (.pointer e) → (Op.equalIn 10000 t (.pointer q) (.pointer none)).run P w = .ok q.isNone w := by
      intro e he
      rw [show (10000 : Nat) = 9999 + 1 from rfl, Op.equalIn]
      simp only [Sem.run_bind, run_underlying he, Result.andThen_ok]
      cases q <;> rfl
    split at h
    · split at h
      · rename_i hu
        simp at h; subst h
        obtain ⟨e, he⟩ : ∃ e, P.underlying t = some (.pointer e) := by
          cases hh : P.underlying t with
          | none => rw [hh] at hu; simp at hu
          | some d => cases d <;> rw [hh] at hu <;> simp at hu; exact ⟨_, rfl⟩
        refine ⟨_, rfl, by simp [eqGuard], ?_⟩
        cases q <;> simp [binOp, Op.equal, Op.maxDepth, Sem.run_bind, key e he] at hq ⊢ <;> simp [hq]
      · cases h
    · split at h
      · rename_i hu
        simp at h; subst h
        obtain ⟨e, he⟩ : ∃ e, P.underlying t = some (.pointer e) := by
          cases hh : P.underlying t with
          | none => rw [hh] at hu; simp at hu
          | some d => cases d <;> rw [hh] at hu <;> simp at hu; exact ⟨_, rfl⟩
        refine ⟨_, rfl, by simp [eqGuard], ?_⟩
        cases q <;> simp [binOp, Op.equal, Op.maxDepth, Sem.run_bind, key e he] at hq ⊢ <;> simp [hq]
      · cases h
    · cases h
  · -- a map and nil
    rename_i p
    simp [den, denC] at hy
    subst hy
    have hp : ∃ q : Option Nat, vx = .map q ∧ q.isNone = p.isNone := by
      cases p with
      | none => simp [den, denC] at hx; subst hx; exact ⟨none, rfl, rfl⟩
      | some p =>
        simp only [den, denC, Option.map_eq_some_iff] at hx
        obtain ⟨q, _, rfl⟩ := hx
        exact ⟨some q.blk, rfl, rfl⟩
    obtain ⟨q, rfl, hq⟩ := hp
    have key : ∀ e : TypeId × TypeId, P.underlying t = some (.map e.1 e.2) → (Op.equalIn 10000 t (.map q) (.map none)).run P w = .ok q.isNone w := by
      intro e he
      rw [show (10000 : Nat) = 9999 + 1 from rfl, Op.equalIn]
      simp only [Sem.run_bind, run_underlying he, Result.andThen_ok]
      cases q <;> rfl
    split at h
    · split at h
      · rename_i hu
        simp at h; subst h
        obtain ⟨e, he⟩ : ∃ e : TypeId × TypeId, P.underlying t = some (.map e.1 e.2) := by
          cases hh : P.underlying t with
          | none => rw [hh] at hu; simp at hu
          | some d => cases d <;> rw [hh] at hu <;> simp at hu; exact ⟨⟨_, _⟩, rfl⟩
        refine ⟨_, rfl, by simp [eqGuard], ?_⟩
        cases q <;> simp [binOp, Op.equal, Op.maxDepth, Sem.run_bind, key e he] at hq ⊢ <;> simp [hq]
      · cases h
    · split at h
      · rename_i hu
        simp at h; subst h
        obtain ⟨e, he⟩ : ∃ e : TypeId × TypeId, P.underlying t = some (.map e.1 e.2) := by
          cases hh : P.underlying t with
          | none => rw [hh] at hu; simp at hu
          | some d => cases d <;> rw [hh] at hu <;> simp at hu; exact ⟨⟨_, _⟩, rfl⟩
        refine ⟨_, rfl, by simp [eqGuard], ?_⟩
        cases q <;> simp [binOp, Op.equal, Op.maxDepth, Sem.run_bind, key e he] at hq ⊢ <;> simp [hq]
      · cases h
    · cases h
  · -- structs, arrays
    rename_i cs ds
    obtain ⟨xs, hxs, rfl⟩ := den_agg hx
    obtain ⟨ys, hys, rfl⟩ := den_agg hy
    split at h
    · cases h
    · rename_i ks hks
      split at h
      · rename_i hc
        simp only [Bool.and_eq_true, Bool.not_eq_true'] at hc
        obtain ⟨⟨⟨f1, f2⟩, hg⟩, hag⟩ := hc
        have hag : tyAgg P t = some true := by simpa using hag
        have g1 := fitsK_ok f1 hxs
        have g2 := fitsK_ok f2 hys
        have heq := equalIn_flat 5 t ks 9995 hks xs ys g1 g2 w
        simp only [vOf, hag] at heq
        have guard : (eqGuard op t ox oy (.agg xs.toArray) (.agg ys.toArray)).run P w = .ok () w := run_eqGuard_agg w op t ox oy _ _ hg
        split at h
        · rename_i e he
          simp at h; subst h
          refine ⟨_, rfl, guard, ?_⟩
          rw [run_eql_struct, show (10000 : Nat) = 9995 + 5 from rfl, heq]
          simp [Result.andThen, eqCells_ok he hxs hys]
        · rename_i e he
          simp at h; subst h
          refine ⟨_, rfl, guard, ?_⟩
          rw [run_neq_struct, show (10000 : Nat) = 9995 + 5 from rfl, heq]
          simp [Result.andThen, eqCells_ok he hxs hys]
        · cases h
      · cases h
  · cases h

theorem unop_ok (hp : holds Φ ρ pc) {op : UnOp} {x v : AV} {vx : Value} (h : unop pc op x = some v) (hx : den Φ ρ μ x = some vx) : ∃ u, den Φ ρ μ v = some u ∧ (Op.unary op vx).run P w = .ok u w := by
  unfold unop at h
  split at h
  · simp at h; subst h; simp [den, denC] at hx; subst hx; exact ⟨_, rfl, by simp [Op.unary]⟩
  · simp at h; subst h; simp [den, denC] at hx; subst hx; exact ⟨_, rfl, by simp [Op.unary, Op.intArith, ev_mkWrap Φ ρ hp]⟩
  · cases h

theorem conv_ok (hp : holds Φ ρ pc) {src dst : TypeId} {x v : AV} {vx : Value} (h : conv P pc src dst x = some v) (hx : den Φ ρ μ x = some vx) : ∃ u, den Φ ρ μ v = some u ∧ (convert src dst vx).run P w = .ok u w := by
  unfold conv at h
  split at h
  · rename_i hs hd
    simp at h; subst h; simp [den, denC] at hx; subst hx
    exact ⟨_, rfl, by simp [convert, run_underlying hs, run_underlying hd, Conv.intToInt, Sem.run_bind, ev_mkWrap Φ ρ hp]⟩
  · cases h

/-- The address of a place of an object of cells. -/
theorem denPt_cells {p : Pt} {l : Loc} {x : Addr} (hp : denPt Φ ρ μ p = some x) (hl : μ[p.id]? = some l) (hb : l.base = 0) (hs : l.str = 0) : x = ⟨l.blk, p.j, none⟩ := by
  unfold denPt at hp
  rw [hl] at hp
  simp only [hb, hs] at hp
  split at hp
  · simp at hp; rw [← hp]
  · cases hp

theorem obj_loc (hM : MRel Φ ρ μ B s.m w) {i : Nat} {o : AObj} (h : s.m.o[i]? = some o) : ∃ l, μ[i]? = some l := by
  have hi := (List.getElem?_eq_some_iff.1 h).1
  exact ⟨μ[i]'(by rw [hM.len]; exact hi), List.getElem?_eq_getElem _⟩

theorem cell_of_cells {blk : Nat} {vs : List Value} {ty : TypeId} (hh : w.heap[blk]? = some (.cells vs.toArray ty (0, 0))) (j : Nat) : w.cell? ⟨blk, j, none⟩ = vs[j]? := by
  simp [World.cell?, hh]

theorem den_ptr {p : Pt} {v : Value} (h : den Φ ρ μ (.cv (.p (some p))) = some v) : ∃ x, denPt Φ ρ μ p = some x ∧ v = .pointer (some x) := by
  simp only [den, denC, Option.map_eq_some_iff] at h
  obtain ⟨x, hx, rfl⟩ := h
  exact ⟨x, hx, rfl⟩

/-- Cells that lie side by side from an address on are loaded as the value of the type. -/
theorem run_loadAt {t : TypeId} {n : Nat} {ag : Bool} (hn : tySize P t = some n) (ha : tyAgg P t = some ag) {x : Addr} {vs : List Value} (hl : vs.length = n)
    (hc : ∀ (j : Nat) (v : Value), vs[j]? = some v → w.cell? (x.add j) = some v) :
    (ag = true → (Instr.loadAt t (.pointer (some x))).run P w = .ok (.agg vs.toArray) w) ∧ (∀ v, ag = false → vs = [v] → (Instr.loadAt t (.pointer (some x))).run P w = .ok v w) := by
  constructor
  · intro e; subst e
    simp only [Instr.loadAt, Instr.sureAddr, loadVar, Sem.run_bind, Sem.run_pure, Result.andThen_ok, run_isAgg' ha, if_true, run_sizeOf' hn]
    rw [← hl, run_loadCells_list w x vs hc]
    rfl
  · intro v e hv; subst e; subst hv
    simp only [Instr.loadAt, Instr.sureAddr, loadVar, Sem.run_bind, Sem.run_pure, Result.andThen_ok, run_isAgg' ha, Bool.false_eq_true, if_false]
    have := hc 0 v rfl
    rw [run_load]
    simp [Addr.add] at this
    rw [this]

theorem add_eq (x : Addr) (hx : x.spot = none) (j : Nat) : x.add j = ⟨x.block, x.off + j, none⟩ := by
  unfold Addr.add
  split
  · rename_i h; subst h; cases x; simp_all
  · rfl

theorem extCells_length (A : SL) (r : SI) : ∀ (j : Nat) (ks : List CK), (extCells A r j ks).length = ks.length
  | _, [] => rfl
  | j, k :: ks => by simp [extCells, extCells_length A r (j + 1) ks]

theorem okRow_len : ∀ {ks : List CK} {row : List Int}, okRow ks row → row.length = ks.length
  | [], [], _ => rfl
  | k :: ks, n :: ns, h => by simp [okRow_len h.2]
  | [], _ :: _, h => by cases h
  | _ :: _, [], h => by cases h
theorem rowVals_len : ∀ {ks : List CK} {row : List Int}, okRow ks row → (rowVals ks row).length = ks.length
  | [], [], _ => rfl
  | k :: ks, n :: ns, h => by simp [rowVals, rowVals_len h.2]
  | [], _ :: _, h => by cases h
  | _ :: _, [], h => by cases h
theorem rowVals_get : ∀ {ks : List CK} {row : List Int}, okRow ks row → ∀ (j : Nat) (k : CK), ks[j]? = some k → (rowVals ks row)[j]? = some (ckVal k (row.getD j 0)) ∧ okCell k (row.getD j 0)
  | [], [], _, j, k, h => by simp at h
  | k :: ks, n :: ns, h, 0, k', h' => by simp at h'; subst h'; exact ⟨rfl, h.1⟩
  | k :: ks, n :: ns, h, j + 1, k', h' => by simpa [rowVals] using rowVals_get h.2 j k' (by simpa using h')
  | [], _ :: _, h, _, _, _ => by cases h
  | _ :: _, [], h, _, _, _ => by cases h
theorem flat_len {ks : List CK} : ∀ {A : Tab}, (∀ row ∈ A, okRow ks row) → (A.flatMap (rowVals ks)).length = A.length * ks.length
  | [], _ => by simp
  | row :: A, h => by
    rw [List.flatMap_cons, List.length_append, rowVals_len (h row (List.mem_cons_self ..)), flat_len (fun r hr => h r (List.mem_cons_of_mem _ hr)), List.length_cons, Nat.add_mul]
    omega
theorem flat_get {ks : List CK} : ∀ {A : Tab}, (∀ row ∈ A, okRow ks row) → ∀ {r j : Nat} {row : List Int}, A[r]? = some row → j < ks.length → (A.flatMap (rowVals ks))[r * ks.length + j]? = (rowVals ks row)[j]?
  | [], _, r, j, row, h, _ => by simp at h
  | row :: A, h, 0, j, row', h', hj => by
    simp at h'; subst h'
    rw [List.flatMap_cons, List.getElem?_append_left (by rw [rowVals_len (h row (List.mem_cons_self ..))]; omega)]
    simp
  | row :: A, h, r + 1, j, row', h', hj => by
    have hl := rowVals_len (h row (List.mem_cons_self ..))
    rw [List.flatMap_cons, List.getElem?_append_right (by rw [hl, Nat.add_mul]; omega), hl]
    rw [show (r + 1) * ks.length + j - ks.length = r * ks.length + j by rw [Nat.add_mul]; omega]
    exact flat_get (fun r hr => h r (List.mem_cons_of_mem _ hr)) (by simpa using h') hj

/-- Where an object's rows lie. -/
def RowsAt (w : World) (l : Loc) (ks : List CK) (A : Tab) : Prop :=
  l.str = ks.length ∧ (∀ row ∈ A, okRow ks row) ∧ ∀ (i : Nat) (v : Value), (A.flatMap (rowVals ks))[i]? = some v → w.cell? ⟨l.blk, l.base + i, none⟩ = some v
theorem rowsAt_vec {ks : List CK} {ty : TypeId} {A : Tab} {l : Loc} (h : RepVec ks ty A w l) : RowsAt w l ks A := by
  obtain ⟨h1, h2, h3, h4, h5, h6⟩ := h
  refine ⟨h1, h3, fun i v hv => ?_⟩
  split at h6
  · have : A = [] := List.eq_nil_of_length_eq_zero (by omega)
    subst this; simp at hv
  · obtain ⟨_, cs, hc, _, hr⟩ := h6
    simp only [World.cell?, hc]
    exact hr i v hv
theorem rowsAt_ext {ks : List CK} {A : SL} {l : Loc} (h : ObjOK Φ ρ μ w l (.ext A ks)) : RowsAt w l ks (A.ev Φ ρ) := ⟨h.1, h.2.2.1, h.2.2.2⟩

theorem ck_ok {k : CK} {A : SL} {r : SI} {j : Nat} {row : List Int} (hr : (A.ev Φ ρ).getD (r.ev Φ ρ).toNat [] = row) : denC Φ ρ μ (ckC k A r j) = some (ckVal k (row.getD j 0)) := by
  cases k with
  | i k =>
    show some (Value.int k ((mkSel 60 A r j).ev Φ ρ)) = _
    rw [ev_mkSel, hr]; rfl
  | b =>
    show some (Value.bool ((mkNot (mkEq (mkSel 60 A r j) (SI.c 0))).ev Φ ρ)) = _
    rw [evB_mkNot, evB_mkEq, ev_mkSel, hr, ev_c]
    simp only [ckVal, ne_eq, decide_not]
  | cd k =>
    show some (qVal k ((mkSel 60 A r j).ev Φ ρ)) = _
    rw [ev_mkSel, hr]; rfl

theorem denL_ext {A : SL} {r : SI} {row : List Int} (hr : (A.ev Φ ρ).getD (r.ev Φ ρ).toNat [] = row) : ∀ (j : Nat) (ks : List CK),
    denL Φ ρ μ (extCells A r j ks) = some (ks.zipIdx.map fun x => ckVal x.1 (row.getD (j + x.2) 0))
  | j, [] => by simp [extCells, denL]
  | j, k :: ks => by
    have ih := denL_ext hr (j + 1) ks
    simp only [extCells, denL, ck_ok (k := k) (j := j) hr, ih]
    congr 1
    simp only [List.zipIdx_cons, List.map_cons, Nat.add_zero]
    congr 1
    rw [List.zipIdx_succ, List.map_map]
    apply List.map_congr_left
    intro x _
    simp only [Function.comp]
    congr 2
    omega

theorem facts_ok {A : SL} {r : SI} {row : List Int} (hr : (A.ev Φ ρ).getD (r.ev Φ ρ).toNat [] = row) : ∀ (j : Nat) (ks : List CK), (∀ (i : Nat) (k : CK), ks[i]? = some k → okCell k (row.getD (j + i) 0)) → holds Φ ρ (extFacts pc A r j ks)
  | j, [], _ => by intro c h; simp [extFacts] at h
  | j, k :: ks, h => by
    refine holds_app Φ ρ ?_ (facts_ok hr (j + 1) ks fun i k' hk => by rw [show j + 1 + i = j + (i + 1) by omega]; exact h (i + 1) k' (by simpa using hk))
    have h0 := h 0 k rfl
    simp only [Nat.add_zero] at h0
    cases k with
    | b => intro c hc; simp [ckFacts] at hc
    | cd k =>
      simp only [ckFacts]
      split
      · exact holds_nil Φ ρ
      · exact holds_cons Φ ρ (by rw [evB_le, ev_c, ev_mkSel, hr]; exact decide_eq_true h0) (holds_nil Φ ρ)
    | i k =>
      simp only [ckFacts]
      split
      · rename_i hs
        obtain ⟨h1, h2⟩ := h0 hs
        refine holds_app Φ ρ ?_ ?_
        · split
          · exact holds_nil Φ ρ
          · exact holds_cons Φ ρ (by rw [evB_le, ev_c, ev_mkSel, hr]; exact decide_eq_true h1) (holds_nil Φ ρ)
        · split
          · exact holds_nil Φ ρ
          · exact holds_cons Φ ρ (by rw [evB_le, ev_c, ev_mkSel, hr]; exact decide_eq_true h2) (holds_nil Φ ρ)
      · exact holds_nil Φ ρ

theorem rows_load (hp : holds Φ ρ pc) {l : Loc} {ks : List CK} {A : SL} {p : Pt} {n : Nat} {addr : Addr} (hR : RowsAt w l ks (A.ev Φ ρ)) (hl : μ[p.id]? = some l) (ha : denPt Φ ρ μ p = some addr)
    (h1 : p.j + n ≤ ks.length) (h2 : known pc (.lt p.r (mkLen 60 A)) = some true) :
    (∃ vs, denL Φ ρ μ (extCells A p.r p.j ((ks.drop p.j).take n)) = some vs ∧ vs.length = n ∧ ∀ (j : Nat) (v : Value), vs[j]? = some v → w.cell? (addr.add j) = some v) ∧
    holds Φ ρ (extFacts pc A p.r p.j ((ks.drop p.j).take n)) := by
  obtain ⟨hst, hok, hc⟩ := hR
  have hlt := known_ok Φ ρ hp _ _ h2
  simp at hlt
  unfold denPt at ha
  rw [hl] at ha
  simp only at ha
  split at ha
  case isFalse => cases ha
  rename_i h0
  simp at ha; subst ha
  have hrl : (p.r.ev Φ ρ).toNat < (A.ev Φ ρ).length := by omega
  have hrow : (A.ev Φ ρ)[(p.r.ev Φ ρ).toNat]? = some ((A.ev Φ ρ).getD (p.r.ev Φ ρ).toNat []) := by simp [List.getD, List.getElem?_eq_getElem hrl]
  generalize hg : (A.ev Φ ρ).getD (p.r.ev Φ ρ).toNat [] = row at *
  have hrk : okRow ks row := hok row (List.mem_of_getElem? hrow)
  refine ⟨⟨_, denL_ext hg p.j _, by simp; omega, fun j v hv => ?_⟩, facts_ok hg p.j _ fun i k hk => ?_⟩
  · simp only [List.getElem?_map, Option.map_eq_some_iff] at hv
    obtain ⟨⟨k, i⟩, hki, rfl⟩ := hv
    rw [List.getElem?_zipIdx] at hki
    simp only [Option.map_eq_some_iff, Prod.mk.injEq] at hki
    obtain ⟨k', hk', rfl, rfl⟩ := hki
    rw [List.getElem?_take] at hk'
    split at hk'
    · rw [List.getElem?_drop] at hk'
      rw [add_eq _ rfl]
      have hjl : p.j + j < ks.length := (List.getElem?_eq_some_iff.1 hk').1
      have h3 := flat_get hok hrow hjl
      rw [(rowVals_get hrk (p.j + j) k' hk').1] at h3
      have := hc _ _ h3
      simp only [Nat.zero_add]
      rw [hst, show l.base + (p.r.ev Φ ρ).toNat * ks.length + p.j + j = l.base + ((p.r.ev Φ ρ).toNat * ks.length + (p.j + j)) by omega]
      exact this
    · cases hk'
  · rw [List.getElem?_take] at hk
    split at hk
    · rw [List.getElem?_drop] at hk
      exact (rowVals_get hrk (p.j + i) k hk).2
    · cases hk

theorem constE_ok : ∀ {pc : List SB} (e : SI), holds Φ ρ pc → (constE pc e).ev Φ ρ = e.ev Φ ρ
  | [], e, _ => rfl
  | f :: r, e, h => by
    have ih := constE_ok (pc := r) e fun x hx => h x (List.mem_cons_of_mem _ hx)
    have h0 := h f (List.mem_cons_self ..)
    unfold constE
    split
    · cases ‹_ :: _ = []›
    · rename_i x n r' he
      simp only [List.cons.injEq] at he
      obtain ⟨rfl, rfl⟩ := he
      split
      · rename_i hs
        rw [evB_eq, ev_c, decide_eq_true_eq] at h0
        rw [ev_c, ← SI.same_eq _ _ hs, h0]
      · exact ih
    · rename_i r' _ he
      simp only [List.cons.injEq] at he
      obtain ⟨rfl, rfl⟩ := he
      exact ih
theorem denL_W {A : SL} {r : SI} (hp : holds Φ ρ pc) (h0 : 0 ≤ r.ev Φ ρ) (h1 : (r.ev Φ ρ).toNat < (A.ev Φ ρ).length) : ∀ (j : Nat) (ks : List CK), j + ks.length ≤ ((A.ev Φ ρ).getD (r.ev Φ ρ).toNat []).length →
    denL Φ ρ μ (extW pc A r j ks) = denL Φ ρ μ (extCells A r j ks)
  | j, [], _ => rfl
  | j, k :: ks, h => by
    have h' : j + (ks.length + 1) ≤ ((A.ev Φ ρ).getD (r.ev Φ ρ).toNat []).length := h
    have ih := denL_W hp h0 h1 (j + 1) ks (by omega)
    have e := (constE_ok (mkSelW 60 A r j) hp).trans (ev_mkSelW Φ ρ 60 A r j h0 h1 (by omega))
    have e1 : denC Φ ρ μ (ckW pc k A r j) = denC Φ ρ μ (ckC k A r j) := by
      rw [ck_ok rfl]
      cases k with
      | i k =>
        show some (Value.int k ((constE pc (mkSelW 60 A r j)).ev Φ ρ)) = _
        rw [e]; rfl
      | b =>
        show some (Value.bool ((mkNot (mkEq (constE pc (mkSelW 60 A r j)) (SI.c 0))).ev Φ ρ)) = _
        rw [evB_mkNot, evB_mkEq, e, ev_c]
        simp only [ckVal, ne_eq, decide_not]
      | cd k =>
        show some (qVal k ((constE pc (mkSelW 60 A r j)).ev Φ ρ)) = _
        rw [e]; rfl
    simp only [extW, extCells, denL, ih, e1]
theorem rows_loadW (hp : holds Φ ρ pc) {l : Loc} {ks : List CK} {A : SL} {p : Pt} {n : Nat} {addr : Addr} (hR : RowsAt w l ks (A.ev Φ ρ)) (hl : μ[p.id]? = some l) (ha : denPt Φ ρ μ p = some addr)
    (h1 : p.j + n ≤ ks.length) (h2 : known pc (.lt p.r (mkLen 60 A)) = some true) :
    (∃ vs, denL Φ ρ μ (extW pc A p.r p.j ((ks.drop p.j).take n)) = some vs ∧ vs.length = n ∧ ∀ (j : Nat) (v : Value), vs[j]? = some v → w.cell? (addr.add j) = some v) ∧
    holds Φ ρ (extFacts pc A p.r p.j ((ks.drop p.j).take n)) := by
  have hlt := known_ok Φ ρ hp _ _ h2
  simp at hlt
  have h0 : 0 ≤ p.r.ev Φ ρ := by
    unfold denPt at ha
    rw [hl] at ha
    simp only at ha
    split at ha
    · assumption
    · cases ha
  have hrl : (p.r.ev Φ ρ).toNat < (A.ev Φ ρ).length := by omega
  have hrow : (A.ev Φ ρ)[(p.r.ev Φ ρ).toNat]? = some ((A.ev Φ ρ).getD (p.r.ev Φ ρ).toNat []) := by simp [List.getD, List.getElem?_eq_getElem hrl]
  have hlen := okRow_len (hR.2.1 _ (List.mem_of_getElem? hrow))
  rw [denL_W hp h0 hrl _ _ (by rw [hlen, List.length_take, List.length_drop]; omega)]
  exact rows_load hp hR hl ha h1 h2
theorem cellsAt_ok (hM : MRel Φ ρ μ B s.m w) (hp : holds Φ ρ pc) {p : Pt} {n : Nat} {cs : List CV} {fs : List SB} {addr : Addr} (h : cellsAt s pc p n = some (cs, fs)) (ha : denPt Φ ρ μ p = some addr) :
    (∃ vs, denL Φ ρ μ cs = some vs ∧ vs.length = n ∧ ∀ (j : Nat) (v : Value), vs[j]? = some v → w.cell? (addr.add j) = some v) ∧ holds Φ ρ fs := by
  unfold cellsAt at h
  split at h
  · rename_i cs' ty ho
    split at h
    · rename_i hr
      split at h
      · rename_i hle
        simp only [Option.some.injEq, Prod.mk.injEq] at h
        obtain ⟨rfl, rfl⟩ := h
        obtain ⟨l, hl⟩ := obj_loc hM ho
        obtain ⟨hb, hst, _, vs, hv, hh⟩ := hM.obj p.id _ l ho hl
        have := denPt_cells ha hl hb hst
        subst this
        refine ⟨⟨_, denL_take _ (denL_drop _ hv), ?_, fun j v hv' => ?_⟩, holds_nil Φ ρ⟩
        · have := denL_length hv; simp; omega
        · rw [List.getElem?_take] at hv'
          split at hv'
          · rw [List.getElem?_drop] at hv'
            rw [add_eq _ rfl, cell_of_cells hh]; exact hv'
          · cases hv'
      · cases h
    · cases h
  · rename_i A ks ho
    split at h
    · rename_i hc
      simp only [Option.some.injEq, Prod.mk.injEq] at h
      obtain ⟨rfl, rfl⟩ := h
      obtain ⟨l, hl⟩ := obj_loc hM ho
      exact rows_load hp (rowsAt_ext (hM.obj p.id _ l ho hl)) hl ha hc.1 hc.2
    · cases h
  · rename_i ks ty A ho
    split at h
    · rename_i hc
      simp only [Option.some.injEq, Prod.mk.injEq] at h
      obtain ⟨rfl, rfl⟩ := h
      obtain ⟨l, hl⟩ := obj_loc hM ho
      exact rows_loadW hp (rowsAt_vec (hM.obj p.id _ l ho hl)) hl ha hc.1 hc.2
    · cases h
  · cases h

theorem load_ok (hM : MRel Φ ρ μ B s.m w) (hp : holds Φ ρ pc) {t : TypeId} {x v : AV} {fs : List SB} {vx : Value} (h : loadOp P s pc t x = some (v, fs)) (hx : den Φ ρ μ x = some vx) :
    holds Φ ρ fs ∧ ∃ u, den Φ ρ μ v = some u ∧ (Instr.loadAt t vx).run P w = .ok u w := by
  unfold loadOp at h
  split at h
  case h_2 => cases h
  rename_i p n ag hn ha
  obtain ⟨addr, haddr, rfl⟩ := den_ptr hx
  split at h
  · rename_i cs fs' hcs
    obtain ⟨⟨vs, hv, hlen, hc⟩, hf⟩ := cellsAt_ok hM hp hcs haddr
    simp at h; obtain ⟨rfl, rfl⟩ := h
    exact ⟨hf, _, by simp only [den, hv]; rfl, (run_loadAt hn ha hlen hc).1 rfl⟩
  · rename_i c fs' hcs
    obtain ⟨⟨vs, hv, hlen, hc⟩, hf⟩ := cellsAt_ok hM hp hcs haddr
    simp at h; obtain ⟨rfl, rfl⟩ := h
    simp only [denL] at hv
    cases h1 : denC Φ ρ μ c with
    | none => rw [h1] at hv; cases hv
    | some u =>
      rw [h1] at hv; simp at hv; subst hv
      exact ⟨hf, u, h1, (run_loadAt hn ha hlen hc).2 u rfl rfl⟩
  · cases h
end
end Go.SF
