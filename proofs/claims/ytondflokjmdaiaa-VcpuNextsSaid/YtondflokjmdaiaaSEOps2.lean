/- Each operation that calls nothing does what the machine of unknowns says. -/
import Derived.Test.YtondflokjmdaiaaSEEq
namespace Go.SE
set_option linter.unusedVariables false
set_option linter.unusedSimpArgs false

section
variable {D : Type} {Φ : Sig D} {ρ : Env D} {μ : List Loc} {P : Program} {w0 w : World} {s : St} {a : Act} {pc : List SB}

theorem den_agg {cs : List CV} {x : Value} (h : den Φ ρ μ (.agg cs) = some x) : ∃ vs, denL Φ ρ μ cs = some vs ∧ x = .agg vs.toArray := by
  simp only [den, Option.map_eq_some_iff] at h
  obtain ⟨vs, hv, rfl⟩ := h
  exact ⟨vs, hv, rfl⟩

theorem binop_ok {op : BinOp} {t : TypeId} {x y v : AV} {vx vy : Value} (ox oy : Operand) (h : binop P op t x y = some v) (hx : den Φ ρ μ x = some vx) (hy : den Φ ρ μ y = some vy) :
    ∃ u, den Φ ρ μ v = some u ∧ (eqGuard op t ox oy vx vy).run P w = .ok () w ∧ (binOp op t vx vy).run P w = .ok u w := by
  unfold binop at h
  split at h
  · -- ints
    rename_i k p l q
    split at h
    · rename_i hk
      subst hk
      simp only [Option.map_eq_some_iff] at h
      obtain ⟨c, hc, rfl⟩ := h
      simp [den, denC] at hx hy
      subst hx hy
      obtain ⟨u, hu, hr⟩ := binI_ok (Φ := Φ) (ρ := ρ) (μ := μ) (P := P) (w := w) hc t
      refine ⟨u, hu, ?_, hr⟩
      cases op <;> simp [eqGuard]
    · cases h
  · -- bools
    rename_i p q
    simp [den, denC] at hx hy
    subst hx hy
    split at h
    · split at h
      · rename_i hu
        simp at h; subst h
        refine ⟨_, rfl, by simp [eqGuard], ?_⟩
        have hu' : P.underlying t = some .bool := by
          cases hh : P.underlying t with
          | none => rw [hh] at hu; simp at hu
          | some d => cases d <;> rw [hh] at hu <;> simp at hu
        simp [binOp, Op.equal, Op.maxDepth, run_equalIn_bool' w 9999 t _ _ hu', Sem.run_bind]
      · cases h
    · split at h
      · rename_i hu
        simp at h; subst h
        refine ⟨_, rfl, by simp [eqGuard], ?_⟩
        have hu' : P.underlying t = some .bool := by
          cases hh : P.underlying t with
          | none => rw [hh] at hu; simp at hu
          | some d => cases d <;> rw [hh] at hu <;> simp at hu
        simp [binOp, Op.equal, Op.maxDepth, run_equalIn_bool' w 9999 t _ _ hu', Sem.run_bind]
      · cases h
    · cases h
  · -- strings
    rename_i p q
    simp [den, denC] at hx hy
    subst hx hy
    split at h
    · simp at h; subst h
      exact ⟨_, rfl, by simp [eqGuard], by simp [binOp, Op.stringOp, beq_toListBytes]⟩
    · simp at h; subst h
      exact ⟨_, rfl, by simp [eqGuard], by simp [binOp, Op.stringOp, beq_toListBytes]⟩
    · cases h
  · -- a pointer and nil
    rename_i p
    simp [den, denC] at hy
    subst hy
    have hp : ∃ q : Option Addr, vx = .pointer q ∧ q.isNone = p.isNone := by
      cases p with
      | none => simp [den, denC] at hx; subst hx; exact ⟨none, rfl, rfl⟩
      | some p =>
        simp only [den, denC, Option.map_eq_some_iff] at hx
        obtain ⟨q, _, rfl⟩ := hx
        exact ⟨some q, rfl, rfl⟩
    obtain ⟨q, rfl, hq⟩ := hp
    have key : ∀ e, P.underlying t = some (.pointer e) → (Op.equalIn 10000 t (.pointer q) (.pointer none)).run P w = .ok q.isNone w := by
      intro e he
      rw [show (10000 : Nat) = 9999 + 1 from rfl, Op.equalIn]
      simp only [Sem.run_bind, run_underlying he, Result.andThen_ok]
      cases q <;> rfl
    split at h
    · split at h
      · rename_i hu
        simp at h; subst h
        obtain ⟨e, he⟩ : ∃ e, P.underlying t = some (.pointer e) := by
          cases hh : P.underlying t with
          | none => rw [hh] at hu; simp at hu
          | some d => cases d <;> rw [hh] at hu <;> simp at hu; exact ⟨_, rfl⟩
        refine ⟨_, rfl, by simp [eqGuard], ?_⟩
        cases q <;> simp [binOp, Op.equal, Op.maxDepth, Sem.run_bind, key e he] at hq ⊢ <;> simp [hq]
      · cases h
    · split at h
      · rename_i hu
        simp at h; subst h
        obtain ⟨e, he⟩ : ∃ e, P.underlying t = some (.pointer e) := by
          cases hh : P.underlying t with
          | none => rw [hh] at hu; simp at hu
          | some d => cases d <;> rw [hh] at hu <;> simp at hu; exact ⟨_, rfl⟩
        refine ⟨_, rfl, by simp [eqGuard], ?_⟩
        cases q <;> simp [binOp, Op.equal, Op.maxDepth, Sem.run_bind, key e he] at hq ⊢ <;> simp [hq]
      · cases h
    · cases h
  · -- structs, arrays
    rename_i cs ds
    obtain ⟨xs, hxs, rfl⟩ := den_agg hx
    obtain ⟨ys, hys, rfl⟩ := den_agg hy
    split at h
    · cases h
    · rename_i ks hks
      split at h
      · rename_i hc
        simp only [Bool.and_eq_true, Bool.not_eq_true'] at hc
        obtain ⟨⟨⟨f1, f2⟩, hg⟩, hag⟩ := hc
        have hag : tyAgg P t = some true := by simpa using hag
        have g1 := fitsK_ok f1 hxs
        have g2 := fitsK_ok f2 hys
        have heq := equalIn_flat 5 t ks 9995 hks xs ys g1 g2 w
        simp only [vOf, hag] at heq
        have guard : (eqGuard op t ox oy (.agg xs.toArray) (.agg ys.toArray)).run P w = .ok () w := run_eqGuard_agg w op t ox oy _ _ hg
        split at h
        · rename_i e he
          simp at h; subst h
          refine ⟨_, rfl, guard, ?_⟩
          rw [run_eql_struct, show (10000 : Nat) = 9995 + 5 from rfl, heq]
          simp [Result.andThen, eqCells_ok he hxs hys]
        · rename_i e he
          simp at h; subst h
          refine ⟨_, rfl, guard, ?_⟩
          rw [run_neq_struct, show (10000 : Nat) = 9995 + 5 from rfl, heq]
          simp [Result.andThen, eqCells_ok he hxs hys]
        · cases h
      · cases h
  · cases h

theorem unop_ok {op : UnOp} {x v : AV} {vx : Value} (h : unop op x = some v) (hx : den Φ ρ μ x = some vx) : ∃ u, den Φ ρ μ v = some u ∧ (Op.unary op vx).run P w = .ok u w := by
  unfold unop at h
  split at h
  · simp at h; subst h; simp [den, denC] at hx; subst hx; exact ⟨_, rfl, by simp [Op.unary]⟩
  · simp at h; subst h; simp [den, denC] at hx; subst hx; exact ⟨_, rfl, by simp [Op.unary, Op.intArith]⟩
  · cases h

theorem conv_ok {src dst : TypeId} {x v : AV} {vx : Value} (h : conv P src dst x = some v) (hx : den Φ ρ μ x = some vx) : ∃ u, den Φ ρ μ v = some u ∧ (convert src dst vx).run P w = .ok u w := by
  unfold conv at h
  split at h
  · rename_i hs hd
    simp at h; subst h; simp [den, denC] at hx; subst hx
    exact ⟨_, rfl, by simp [convert, run_underlying hs, run_underlying hd, Conv.intToInt, Sem.run_bind]⟩
  · cases h

/-- The address of a place of an object of cells. -/
theorem denPt_cells {p : Pt} {l : Loc} {x : Addr} (hp : denPt Φ ρ μ p = some x) (hl : μ[p.id]? = some l) (hb : l.base = 0) (hs : l.str = 0) : x = ⟨l.blk, p.j, none⟩ := by
  unfold denPt at hp
  rw [hl] at hp
  simp only [hb, hs] at hp
  split at hp
  · simp at hp; rw [← hp]
  · cases hp

theorem obj_loc (hM : MRel Φ ρ μ w0 s.m w) {i : Nat} {o : AObj} (h : s.m.o[i]? = some o) : ∃ l, μ[i]? = some l := by
  have hi := (List.getElem?_eq_some_iff.1 h).1
  exact ⟨μ[i]'(by rw [hM.len]; exact hi), List.getElem?_eq_getElem _⟩

theorem cell_of_cells {blk : Nat} {vs : List Value} {ty : TypeId} (hh : w.heap[blk]? = some (.cells vs.toArray ty (0, 0))) (j : Nat) : w.cell? ⟨blk, j, none⟩ = vs[j]? := by
  simp [World.cell?, hh]

theorem den_ptr {p : Pt} {v : Value} (h : den Φ ρ μ (.cv (.p (some p))) = some v) : ∃ x, denPt Φ ρ μ p = some x ∧ v = .pointer (some x) := by
  simp only [den, denC, Option.map_eq_some_iff] at h
  obtain ⟨x, hx, rfl⟩ := h
  exact ⟨x, hx, rfl⟩

/-- Cells that lie side by side from an address on are loaded as the value of the type. -/
theorem run_loadAt {t : TypeId} {n : Nat} {ag : Bool} (hn : tySize P t = some n) (ha : tyAgg P t = some ag) {x : Addr} {vs : List Value} (hl : vs.length = n)
    (hc : ∀ (j : Nat) (v : Value), vs[j]? = some v → w.cell? (x.add j) = some v) :
    (ag = true → (Instr.loadAt t (.pointer (some x))).run P w = .ok (.agg vs.toArray) w) ∧ (∀ v, ag = false → vs = [v] → (Instr.loadAt t (.pointer (some x))).run P w = .ok v w) := by
  constructor
  · intro e; subst e
    simp only [Instr.loadAt, Instr.sureAddr, loadVar, Sem.run_bind, Sem.run_pure, Result.andThen_ok, run_isAgg' ha, if_true, run_sizeOf' hn]
    rw [← hl, run_loadCells_list w x vs hc]
    rfl
  · intro v e hv; subst e; subst hv
    simp only [Instr.loadAt, Instr.sureAddr, loadVar, Sem.run_bind, Sem.run_pure, Result.andThen_ok, run_isAgg' ha, Bool.false_eq_true, if_false]
    have := hc 0 v rfl
    rw [run_load]
    simp [Addr.add] at this
    rw [this]

theorem add_eq (x : Addr) (hx : x.spot = none) (j : Nat) : x.add j = ⟨x.block, x.off + j, none⟩ := by
  unfold Addr.add
  split
  · rename_i h; subst h; cases x; simp_all
  · rfl

theorem extCells_length (A : SL) (r : SI) : ∀ (j : Nat) (ks : List CK), (extCells A r j ks).length = ks.length
  | _, [] => rfl
  | j, k :: ks => by simp [extCells, extCells_length A r (j + 1) ks]

theorem denL_ext {A : SL} {r : SI} {row : List Int} (hr : (Φ.rows (A.ev Φ ρ)).getD (r.ev Φ ρ).toNat [] = row) : ∀ (j : Nat) (ks : List CK),
    denL Φ ρ μ (extCells A r j ks) = some (ks.zipIdx.map fun x => ckVal x.1 (row.getD (j + x.2) 0))
  | j, [] => by simp [extCells, denL]
  | j, k :: ks => by
    have ih := denL_ext hr (j + 1) ks
    have hk : denC Φ ρ μ (ckC k A r j) = some (ckVal k (row.getD j 0)) := by
      cases k with
      | i k =>
        show some (Value.int k ((SI.sel A r j).ev Φ ρ)) = _
        rw [ev_sel, hr]; rfl
      | b =>
        show some (Value.bool (!(decide ((SI.sel A r j).ev Φ ρ = (SI.c 0).ev Φ ρ)))) = _
        rw [ev_sel, hr, ev_c]
        simp only [ckVal, ne_eq, decide_not]
    simp only [extCells, denL, hk, ih]
    congr 1
    simp only [List.zipIdx_cons, List.map_cons, Nat.add_zero]
    congr 1
    rw [List.zipIdx_succ, List.map_map]
    apply List.map_congr_left
    intro x _
    simp only [Function.comp]
    congr 2
    omega

theorem load_ok (hM : MRel Φ ρ μ w0 s.m w) (hp : holds Φ ρ pc) {t : TypeId} {x v : AV} {vx : Value} (h : loadOp P s pc t x = some v) (hx : den Φ ρ μ x = some vx) :
    ∃ u, den Φ ρ μ v = some u ∧ (Instr.loadAt t vx).run P w = .ok u w := by
  unfold loadOp at h
  split at h
  case h_2 => cases h
  rename_i p n ag hn ha
  obtain ⟨addr, haddr, rfl⟩ := den_ptr hx
  simp only at h
  -- what the cells are, and that they are there
  have key : ∀ cs, (match s.m.o[p.id]?, p.r with
      | some (.cells cs _), .c 0 => if p.j + n ≤ cs.length then some ((cs.drop p.j).take n) else none
      | some (.ext A ks), r => if p.j + n ≤ ks.length ∧ known pc (.lt r (.len A)) = some true then some (extCells A r p.j ((ks.drop p.j).take n)) else none
      | _, _ => none) = some cs → ∃ vs, denL Φ ρ μ cs = some vs ∧ vs.length = n ∧ ∀ (j : Nat) (v : Value), vs[j]? = some v → w.cell? (addr.add j) = some v := by
    intro cs hcs
    split at hcs
    · rename_i cs0 ty ho hr
      split at hcs
      · rename_i hle
        simp at hcs; subst hcs
        obtain ⟨l, hl⟩ := obj_loc hM ho
        obtain ⟨hb, hst, vs, hv, hh⟩ := hM.obj p.id _ l ho hl
        have := denPt_cells haddr hl hb hst
        subst this
        refine ⟨(vs.drop p.j).take n, denL_take _ (denL_drop _ hv), ?_, ?_⟩
        · simp [denL_length hv]; omega
        · intro j u hu
          rw [add_eq _ rfl, cell_of_cells hh]
          rw [List.getElem?_take] at hu
          split at hu
          · rw [List.getElem?_drop] at hu; exact hu
          · cases hu
      · cases hcs
    · rename_i A ks ho
      split at hcs
      · rename_i hle
        obtain ⟨hle, hk⟩ := hle
        simp at hcs; subst hcs
        obtain ⟨l, hl⟩ := obj_loc hM ho
        obtain ⟨hst, hblk, hrows⟩ := hM.obj p.id _ l ho hl
        have hlt := known_ok Φ ρ hp _ _ hk
        simp [ev_len] at hlt
        unfold denPt at haddr
        rw [hl] at haddr
        simp only at haddr
        split at haddr
        · rename_i h0
          simp at haddr; subst haddr
          have hrl : (p.r.ev Φ ρ).toNat < (Φ.rows (A.ev Φ ρ)).length := by omega
          have hrow : (Φ.rows (A.ev Φ ρ))[(p.r.ev Φ ρ).toNat]? = some ((Φ.rows (A.ev Φ ρ))[(p.r.ev Φ ρ).toNat]) := List.getElem?_eq_getElem hrl
          generalize hgen : (Φ.rows (A.ev Φ ρ))[(p.r.ev Φ ρ).toNat] = row at hrow
          obtain ⟨hrlen, hcells⟩ := hrows _ row hrow
          refine ⟨_, denL_ext (row := row) (by rw [List.getD_eq_getElem?_getD, hrow]; rfl) _ _, by simp; omega, ?_⟩
          intro j u hu
          rw [add_eq _ rfl]
          simp only [List.getElem?_map, List.getElem?_zipIdx, Option.map_map, Option.map_eq_some_iff] at hu
          obtain ⟨k, hkk, rfl⟩ := hu
          rw [List.getElem?_take] at hkk
          split at hkk
          · rename_i hjn
            rw [List.getElem?_drop] at hkk
            have hjl : p.j + j < row.length := by rw [hrlen]; exact (List.getElem?_eq_some_iff.1 hkk).1
            have := hcells (p.j + j) k (row[p.j + j]) hkk (List.getElem?_eq_getElem hjl)
            simp only [Function.comp, Nat.zero_add] 
            rw [show l.base + (p.r.ev Φ ρ).toNat * l.str + p.j + j = l.base + (p.r.ev Φ ρ).toNat * l.str + (p.j + j) by omega, this]
            simp [List.getD_eq_getElem?_getD, List.getElem?_eq_getElem hjl]
          · cases hkk
        · cases haddr
      · cases hcs
    · cases hcs
  split at h
  · rename_i cs hcs
    obtain ⟨vs, hv, hlen, hc⟩ := key _ hcs
    simp at h; subst h
    exact ⟨_, by simp only [den, hv]; rfl, (run_loadAt hn ha hlen hc).1 rfl⟩
  · rename_i c hcs
    obtain ⟨vs, hv, hlen, hc⟩ := key _ hcs
    simp at h; subst h
    simp only [denL] at hv
    cases h1 : denC Φ ρ μ c with
    | none => rw [h1] at hv; cases hv
    | some u =>
      rw [h1] at hv; simp at hv; subst hv
      exact ⟨u, h1, (run_loadAt hn ha hlen hc).2 u rfl rfl⟩
  · cases h
end
end Go.SE
