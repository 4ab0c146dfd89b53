/- Structs that are built; and all operations that call nothing, together. -/
import Derived.Test.YtfngkeegfjihlaaSFOps3
import Derived.Laws.Tables
namespace Go.SF
set_option linter.unusedVariables false
set_option linter.unusedSimpArgs false

section
variable {Φ : Sig} {ρ : Env} {μ : List Loc} {P : Program} {B : Base} {w : World} {s : St} {a : Act} {pc : List SB}

theorem denL_set {cs : List CV} {vs : List Value} {d : CV} {u : Value} (i : Nat) (h : denL Φ ρ μ cs = some vs) (hd : denC Φ ρ μ d = some u) : denL Φ ρ μ (cs.set i d) = some (vs.set i u) := by
  rw [denL_iff] at h ⊢
  refine ⟨by simp [h.1], fun j c v hc hv => ?_⟩
  by_cases e : i = j
  · subst e
    have hi : i < cs.length := by have := (List.getElem?_eq_some_iff.1 hc).1; simpa using this
    rw [List.getElem?_set_self hi] at hc
    rw [List.getElem?_set_self (by rw [h.1]; exact hi)] at hv
    simp at hc hv; subst hc hv; exact hd
  · rw [List.getElem?_set_ne e] at hc hv
    exact h.2 j c v hc hv

theorem fold_ok (off : Nat) : ∀ (ds : List CV) (us : List Value) (k : Nat) (cs : List CV) (cells : Array Value), denL Φ ρ μ ds = some us → denL Φ ρ μ cs = some cells.toList →
    denL Φ ρ μ (putCells cs (off + k) ds) = some ((us.zipIdx k).foldl (fun (c : Array Value) (x : Value × Nat) => c.setIfInBounds (off + x.2) x.1) cells).toList
  | [], us, k, cs, cells, hd, hc => by simp [denL] at hd; subst hd; simpa [putCells] using hc
  | d :: ds, us, k, cs, cells, hd, hc => by
    simp only [denL] at hd
    cases h1 : denC Φ ρ μ d with
    | none => rw [h1] at hd; cases hd
    | some u =>
      cases h2 : denL Φ ρ μ ds with
      | none => rw [h1, h2] at hd; cases hd
      | some us' =>
        rw [h1, h2] at hd; simp at hd; subst hd
        simp only [putCells, List.zipIdx_cons, List.foldl_cons]
        exact fold_ok off ds us' (k + 1) (cs.set (off + k) d) _ h2 (by simpa using denL_set (off + k) hc h1)

theorem fill_ok (place : Nat → Option (Nat × Nat)) : ∀ (vs : List (Nat × AV)) (xs : List (Nat × Value)) (cs cs' : List CV) (cells : Array Value),
    fillAt place cs vs = some cs' → vs.length = xs.length → (∀ (j : Nat) (i i' : Nat) (v : AV) (x : Value), vs[j]? = some (i, v) → xs[j]? = some (i', x) → i = i' ∧ den Φ ρ μ v = some x) → denL Φ ρ μ cs = some cells.toList →
    ∃ cells', Instr.fill place cells xs = some cells' ∧ denL Φ ρ μ cs' = some cells'.toList
  | [], [], cs, cs', cells, h, _, _, hc => by simp [fillAt] at h; subst h; exact ⟨cells, rfl, hc⟩
  | [], x :: xs, _, _, _, _, hl, _, _ => by simp at hl
  | v :: vs, [], _, _, _, _, hl, _, _ => by simp at hl
  | (i, v) :: vs, (i', x) :: xs, cs, cs', cells, h, hl, hr, hc => by
    obtain ⟨rfl, hv⟩ := hr 0 i i' v x (by simp) (by simp)
    simp only [fillAt] at h
    split at h
    · cases h
    · rename_i v xx vv off size hpl hnt
      split at h
      · rename_i hcond
        simp only [Bool.and_eq_true, decide_eq_true_eq] at hcond
        have hcells := den_cells hv (fun vs e => hnt vs e)
        have hlen := denL_length hcells
        have hcl := denL_length hc
        have e1 : x.cells.size = v.cells.length := hlen
        have e2 : cells.size = cs.length := hcl
        simp only [Instr.fill, hpl]
        rw [if_neg (by simp [e1, e2]; omega)]
        have hstep := fold_ok (Φ := Φ) (ρ := ρ) (μ := μ) off v.cells x.cells.toList 0 cs cells hcells hc
        have e3 : (x.cells.zipIdx.foldl (fun (cs : Array Value) (p : Value × Nat) => cs.setIfInBounds (off + p.2) p.1) cells) = (x.cells.toList.zipIdx 0).foldl (fun (c : Array Value) (x : Value × Nat) => c.setIfInBounds (off + x.2) x.1) cells := by
          rw [← Array.foldl_toList, Array.toList_zipIdx]
        obtain ⟨cells', hf, hd⟩ := fill_ok place vs xs (putCells cs off v.cells) cs' (x.cells.zipIdx.foldl (fun (cs : Array Value) (p : Value × Nat) => cs.setIfInBounds (off + p.2) p.1) cells) h (by simpa using hl)
          (fun j i i' v x h1 h2 => hr (j + 1) i i' v x (by simpa using h1) (by simpa using h2)) (by rw [e3]; simpa using hstep)
        exact ⟨cells', hf, hd⟩
      · cases h
    · cases h

theorem operands_ok (hT : TRel Φ ρ μ s.n s.t a) : ∀ {ps : List (Nat × Operand)} {vs : List (Nat × AV)}, operands s ps = some vs →
    vs.length = ps.length ∧ ∀ (j : Nat) (i : Nat) (v : AV) (x : Nat × Operand), vs[j]? = some (i, v) → ps[j]? = some x → i = x.1 ∧ den Φ ρ μ v = some (a.eval x.2)
  | [], vs, h => by simp [operands] at h; subst h; simp
  | (i, x) :: ps, vs, h => by
    simp only [operands] at h
    cases h1 : opnd s x with
    | none => rw [h1] at h; cases h
    | some v =>
      cases h2 : operands s ps with
      | none => rw [h1, h2] at h; cases h
      | some us =>
        rw [h1, h2] at h; simp at h; subst h
        obtain ⟨hl, hr⟩ := operands_ok hT h2
        refine ⟨by simp [hl], fun j k v' y hv hy => ?_⟩
        cases j with
        | zero => simp at hv hy; obtain ⟨rfl, rfl⟩ := hv; subst hy; exact ⟨rfl, opnd_ok hT h1⟩
        | succ j => exact hr j k v' y (by simpa using hv) (by simpa using hy)

theorem places_ok : ∀ {fs : List Field} {ps : List (Nat × Nat)}, placesOf P fs = some ps → fs.mapM (fun f => (P.info? f.type).map fun i => (f.offset, i.size)) = some ps
  | [], ps, h => by simp [placesOf] at h; subst h; rfl
  | f :: fs, ps, h => by
    simp only [placesOf] at h
    cases h1 : tySize P f.type with
    | none => rw [h1] at h; cases h
    | some n =>
      cases h2 : placesOf P fs with
      | none => rw [h1, h2] at h; cases h
      | some qs =>
        rw [h1, h2] at h; simp at h; subst h
        unfold tySize at h1
        simp only [Option.map_eq_some_iff] at h1
        obtain ⟨i, hi, rfl⟩ := h1
        simp [List.mapM_cons, hi, places_ok h2]

theorem build_ok (hT : TRel Φ ρ μ s.n s.t a) {t : TypeId} {parts : Array (Nat × Operand)} {v : AV} (h : buildOp P s t parts.toList = some v) :
    ∃ u, den Φ ρ μ v = some u ∧ (Instr.build t (parts.map fun (i, x) => (i, a.eval x))).run P w = .ok u w := by
  have key : ∀ (z : AV) (vs : List (Nat × AV)) (place : Nat → Option (Nat × Nat)) (cs' : List CV) (zv : Value), operands s parts.toList = some vs → den Φ ρ μ z = some zv → (∀ us, z ≠ .tup us) → fillAt place z.cells vs = some cs' →
      ∃ cells', Instr.fill place zv.cells (parts.map fun (i, x) => (i, a.eval x)).toList = some cells' ∧ denL Φ ρ μ cs' = some cells'.toList := by
    intro z vs place cs' zv ho hz hnt hf
    obtain ⟨hl, hr⟩ := operands_ok hT ho
    refine fill_ok place vs _ z.cells cs' zv.cells hf (by simp [hl]) ?_ (den_cells hz hnt)
    intro j i i' v x h1 h2
    simp only [Array.toList_map, List.getElem?_map, Option.map_eq_some_iff] at h2
    obtain ⟨y, hy, he⟩ := h2
    obtain ⟨e1, e2⟩ := hr j i v y h1 hy
    simp at he
    exact ⟨by rw [e1, he.1], by rw [e2, he.2]⟩
  unfold buildOp at h
  split at h
  · rename_i z vs fs hz ho hu
    split at h
    · rename_i ps hps
      simp only [Option.map_eq_some_iff] at h
      obtain ⟨cs', hf, rfl⟩ := h
      obtain ⟨zv, hzv, _, hnt⟩ := zero_ok (Φ := Φ) (ρ := ρ) (μ := μ) hz w
      unfold tyZero at hz
      simp only [Option.bind_eq_some_iff] at hz
      obtain ⟨zv', ⟨i, hi, hiz⟩, hzz⟩ := hz
      have : zv = zv' := by have := absV_ok (Φ := Φ) (ρ := ρ) (μ := μ) hzz; rw [hzv] at this; simpa using this
      subst this
      obtain ⟨cells', hfill, hd⟩ := key z vs _ cs' zv ho hzv hnt hf
      refine ⟨.agg cells', by simp [den, hd], run_build w t _ cells' ?_⟩
      simp only [Program.built, hi, hu, hiz, places_ok hps]
      simpa using hfill
    · cases h
  · rename_i z vs m e hz ho hu
    split at h
    · rename_i n hn
      simp only [Option.map_eq_some_iff] at h
      obtain ⟨cs', hf, rfl⟩ := h
      obtain ⟨zv, hzv, _, hnt⟩ := zero_ok (Φ := Φ) (ρ := ρ) (μ := μ) hz w
      unfold tyZero at hz
      simp only [Option.bind_eq_some_iff] at hz
      obtain ⟨zv', ⟨i, hi, hiz⟩, hzz⟩ := hz
      have : zv = zv' := by have := absV_ok (Φ := Φ) (ρ := ρ) (μ := μ) hzz; rw [hzv] at this; simpa using this
      subst this
      unfold tySize at hn
      simp only [Option.map_eq_some_iff] at hn
      obtain ⟨ie, hie, rfl⟩ := hn
      obtain ⟨cells', hfill, hd⟩ := key z vs _ cs' zv ho hzv hnt hf
      refine ⟨.agg cells', by simp [den, hd], run_build w t _ cells' ?_⟩
      simp only [Program.built, hi, hu, hiz, hie]
      exact hfill
    · cases h
  · cases h
end
end Go.SF
