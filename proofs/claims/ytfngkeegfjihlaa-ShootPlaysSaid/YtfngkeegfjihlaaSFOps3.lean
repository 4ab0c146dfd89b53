/- Each operation that calls nothing does what the machine of unknowns says: memory, structs; all of them together. -/
import Derived.Test.YtfngkeegfjihlaaSFOps2
namespace Go.SF
set_option linter.unusedVariables false
set_option linter.unusedSimpArgs false

section
variable {Φ : Sig} {ρ : Env} {μ : List Loc} {P : Program} {B : Base} {w : World} {s : St} {a : Act} {pc : List SB}

theorem denL_one : ∀ {cs : List CV} {vs : List Value}, denL Φ ρ μ cs = some vs → ∀ v ∈ vs, v.oneCell' = true
  | [], vs, h => by simp [denL] at h; subst h; simp
  | c :: cs, vs, h => by
    simp only [denL] at h
    cases h1 : denC Φ ρ μ c with
    | none => rw [h1] at h; cases h
    | some u =>
      cases h2 : denL Φ ρ μ cs with
      | none => rw [h1, h2] at h; cases h
      | some us =>
        rw [h1, h2] at h; simp at h; subst h
        intro v hv
        rcases List.mem_cons.1 hv with rfl | hv
        · exact denC_one h1
        · exact denL_one h2 v hv

theorem setCells_ok (hM : MRel Φ ρ μ B s.m w) {t : TypeId} {p : Pt} {n : Nat} {y : AV} {addr : Addr} {vy : Value} {cs : List CV} {ty : TypeId} (hn : tySize P t = some n) (hnt : ∀ vs, y ≠ .tup vs)
    (ho : s.m.o[p.id]? = some (.cells cs ty)) (hlen : y.cells.length = n) (hle : p.j + n ≤ cs.length) (haddr : denPt Φ ρ μ p = some addr) (hy : den Φ ρ μ y = some vy) :
    ∃ w', (Instr.storeAt t (.pointer (some addr)) vy).run P w = .ok () w' ∧ MRel Φ ρ μ B { s.m with o := s.m.o.set p.id (.cells (putCells cs p.j y.cells) ty), wr := p.id :: s.m.wr } w' := by
  obtain ⟨l, hl⟩ := obj_loc hM ho
  obtain ⟨hb, hst, _, vs, hv, hh⟩ := hM.obj p.id _ l ho hl
  have := denPt_cells haddr hl hb hst
  subst this
  have hc := den_cells hy hnt
  have hcl := denL_length hc
  have hvl := denL_length hv
  refine ⟨_, ?_, MRel.setCells hM ho hl (denL_put p.j (by omega) hv hc)⟩
  simp only [Instr.storeAt, Instr.sureAddr, storeVar, Sem.run_bind, Sem.run_pure, Result.andThen_ok, run_sizeOf' hn]
  have e1 : vy.cells.size = n := by have : vy.cells.toList.length = vy.cells.size := rfl; omega
  simp only [e1, ne_eq, not_true_eq_false, if_false]
  have := run_storeCells_at (P := P) l.blk p.j ty vy.cells.toList 0 vs.toArray w hh (by simp; rw [show vy.cells.size = vy.cells.toList.length from rfl]; omega) (denL_one hc)
  simpa using this

theorem zero_ok {t : TypeId} {z : AV} (h : tyZero P t = some z) (w : World) : ∃ v, den Φ ρ μ z = some v ∧ (zeroValue t).run P w = .ok v w ∧ ∀ vs, z ≠ .tup vs := by
  unfold tyZero at h
  simp only [Option.bind_eq_some_iff] at h
  obtain ⟨v, ⟨i, hi, hz⟩, hv⟩ := h
  refine ⟨v, absV_ok hv, ?_, absV_noTup hv⟩
  simp only [zeroValue, Sem.run_bind, run_typeInfo w hi, Result.andThen_ok, hz, Sem.run_pure]

theorem new_ok (hM : MRel Φ ρ μ B s.m w) {t : TypeId} {z : AV} {v : Value} (hz : den Φ ρ μ z = some v) (hnt : ∀ vs, z ≠ .tup vs) :
    ∃ ν w' x, (newVar t v).run P w = .ok x w' ∧ den Φ ρ (μ ++ ν) (.cv (.p (some ⟨s.m.o.length, .c 0, 0⟩))) = some (.pointer (some x)) ∧ MRel Φ ρ (μ ++ ν) B (s.m.new (.cells z.cells t)).2 w' := by
  have hc := den_cells hz hnt
  refine ⟨[⟨w.heap.size, 0, 0, 0, false, [w.heap.size]⟩], w.alloc (.cells v.cells t), ⟨w.heap.size, 0, none⟩, ?_, ?_, ?_⟩
  · simp only [newVar, newRow, newObj, Sem.run_bind]
    rfl
  · have : (μ ++ [(⟨w.heap.size, 0, 0, 0, false, [w.heap.size]⟩ : Loc)])[s.m.o.length]? = some ⟨w.heap.size, 0, 0, 0, false, [w.heap.size]⟩ := by
      rw [← hM.len, List.getElem?_append_right (Nat.le_refl _)]; simp
    simp [den, denC, denPt, this]
  · have := MRel.newCells hM z.cells v.cells.toList t hc
    simpa using this

theorem fieldAddr_ok {t : TypeId} {x v : AV} {vx : Value} {i : Nat} (h : fieldAddr P t x i = some v) (hx : den Φ ρ μ x = some vx) :
    ∃ u, den Φ ρ μ v = some u ∧ (Instr.fieldAt t vx i).run P w = .ok u w := by
  unfold fieldAddr at h
  split at h
  · rename_i fs p hu
    obtain ⟨addr, haddr, rfl⟩ := den_ptr hx
    split at h
    · rename_i f hf
      split at h
      · rename_i n hn
        split at h
        · cases h
        · rename_i hn0
          simp at h; subst h
          refine ⟨.pointer (some (addr.add f.offset)), ?_, ?_⟩
          · unfold denPt at haddr
            simp only [den, denC, denPt]
            cases hl : μ[p.id]? with
            | none => rw [hl] at haddr; cases haddr
            | some l =>
              rw [hl] at haddr
              simp only at haddr ⊢
              split at haddr
              · rename_i h0
                simp at haddr; subst haddr
                rw [if_pos h0, add_eq _ rfl]
                simp [Nat.add_assoc]
              · cases haddr
          · simp [Instr.fieldAt, run_underlying hu, hf, Instr.sureAddr, fieldPlace, run_sizeOf' hn, hn0, Sem.run_bind, Sem.run_ite]
      · cases h
    · cases h
  · cases h

theorem len_ok {t : TypeId} {x v : AV} {vx : Value} (ty : TypeId) (h : lenOf P t x = some v) (hx : den Φ ρ μ x = some vx) :
    ∃ u, den Φ ρ μ v = some u ∧ (Builtin.len_ #[t] ty #[vx]).run P w = .ok u w := by
  unfold lenOf at h
  split at h
  · rename_i e len cap hu
    simp at h; subst h
    simp only [den, denC] at hx
    split at hx
    · rename_i h0
      simp at hx; subst hx
      exact ⟨_, rfl, by simp [Builtin.len_, run_underlying hu, goInt]⟩
    · cases hx
  · rename_i e q len cap hu
    simp at h; subst h
    simp only [den, denC] at hx
    split at hx
    · rename_i h0
      simp only [Option.map_eq_some_iff] at hx
      obtain ⟨q, _, rfl⟩ := hx
      refine ⟨_, rfl, ?_⟩
      simp [Builtin.len_, run_underlying hu, goInt]
      omega
    · cases hx
  · rename_i e id lo len cap hu
    simp at h; subst h
    simp only [den, denC] at hx
    split at hx
    · cases hx
    · split at hx
      · rename_i l hl h0
        simp at hx; subst hx
        refine ⟨_, rfl, ?_⟩
        unfold vsVal
        split
        · rename_i hnl
          have : len.ev Φ ρ = 0 := by have := h0.2.2.2.2 hnl; omega
          simp [Builtin.len_, run_underlying hu, goInt, this]
        · simp [Builtin.len_, run_underlying hu, goInt]
          omega
      · cases hx
  · rename_i b hu
    simp at h; subst h
    simp [den, denC] at hx; subst hx
    refine ⟨_, rfl, ?_⟩
    simp only [qVal, ev_mkLenS, lenS]
    generalize strB (b.ev Φ ρ) = l
    have e : (ByteArray.mk l.toArray).size = l.length := by show l.toArray.size = _; simp
    simp [Builtin.len_, run_underlying hu, goInt, e]
  · cases h
end
end Go.SF
