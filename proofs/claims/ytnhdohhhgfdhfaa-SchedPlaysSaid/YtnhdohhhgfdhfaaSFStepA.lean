/- Places, slices, literals: they do what the machine of unknowns says. -/
import Derived.Test.YtnhdohhhgfdhfaaSFVec2
namespace Go.SF
set_option linter.unusedVariables false
set_option linter.unusedSimpArgs false

section
variable {Φ : Sig} {ρ : Env} {μ : List Loc} {P : Program} {B : Base} {w : World} {s : St} {a : Act} {pc : List SB}

theorem idxs_ok {n : SI} : ∀ {rem k : Nat} {pc : List SB}, holds Φ ρ pc → (k : Int) ≤ n.ev Φ ρ → n.ev Φ ρ < (k : Int) + rem → ∃ pc' j, (pc', j) ∈ idxs n rem k pc ∧ holds Φ ρ pc' ∧ n.ev Φ ρ = (j : Int)
  | 0, k, pc, hp, h1, h2 => by omega
  | rem + 1, k, pc, hp, h1, h2 => by
    obtain ⟨b, pc', hmem, hev, hp'⟩ := ways_ok Φ ρ (mkEq n (.c k)) hp
    cases b with
    | true =>
      refine ⟨pc', k, ?_, hp', by rw [evB_mkEq] at hev; exact of_decide_eq_true hev⟩
      simp only [idxs, List.mem_flatMap]
      exact ⟨_, hmem, by simp⟩
    | false =>
      have hne : ¬ n.ev Φ ρ = (k : Int) := by rw [evB_mkEq] at hev; exact of_decide_eq_false hev
      obtain ⟨pc2, j, hm2, hp2, hj⟩ := idxs_ok (n := n) (rem := rem) (k := k + 1) hp' (by omega) (by omega)
      refine ⟨pc2, j, ?_, hp2, hj⟩
      simp only [idxs, List.mem_flatMap]
      exact ⟨_, hmem, by simpa using hm2⟩

theorem inRange_ok {n : SI} {len : Nat} {f : Nat → AV × Mem} (hp : holds Φ ρ pc) :
    (∃ pc', (pc', none) ∈ inRange pc n len f ∧ holds Φ ρ pc') ∨ ∃ pc' j, (pc', some (f j)) ∈ inRange pc n len f ∧ holds Φ ρ pc' ∧ n.ev Φ ρ = (j : Int) ∧ j < len := by
  obtain ⟨b, pc', hmem, hev, hp'⟩ := ways_ok Φ ρ (mkAnd (mkLe (.c 0) n) (mkLt n (.c len))) hp
  cases b with
  | false =>
    refine .inl ⟨pc', ?_, hp'⟩
    simp only [inRange, List.mem_flatMap]
    exact ⟨_, hmem, by simp⟩
  | true =>
    rw [evB_mkAnd, evB_mkLe, evB_mkLt, Bool.and_eq_true] at hev
    have hev : 0 ≤ n.ev Φ ρ ∧ n.ev Φ ρ < (len : Int) := ⟨of_decide_eq_true hev.1, of_decide_eq_true hev.2⟩
    obtain ⟨pc2, j, hm2, hp2, hj⟩ := idxs_ok (n := n) (rem := len) (k := 0) hp' (by omega) (by omega)
    refine .inr ⟨pc2, j, ?_, hp2, hj, by omega⟩
    simp only [inRange, List.mem_flatMap, List.mem_map]
    exact ⟨_, hmem, by simp; exact ⟨_, _, hm2, rfl, rfl⟩⟩

theorem index_ok (hM : MRel Φ ρ μ B s.m w) (hp : holds Φ ρ pc) {t : TypeId} {x i : AV} {vx vi : Value} {outs : List (List SB × Option (AV × Mem))} (h : indexAddr P s pc t x i = some outs)
    (hx : den Φ ρ μ x = some vx) (hi : den Φ ρ μ i = some vi) :
    (∃ pc', (pc', none) ∈ outs ∧ holds Φ ρ pc') ∨ ∃ pc' v u, (pc', some (v, s.m)) ∈ outs ∧ holds Φ ρ pc' ∧ den Φ ρ μ v = some u ∧ (Instr.indexAt t vx vi).run P w = .ok u w := by
  unfold indexAddr at h
  split at h
  · rename_i e p len cap k n hu
    have he : P.underlying t = some (.slice (P.elem t)) := by simp [Program.elem, hu]
    have hee : P.elem t = e := by simp [Program.elem, hu]
    split at h
    · rename_i A ks sz ho hsz
      split at h
      · rename_i hks
        simp only [Bool.and_eq_true, decide_eq_true_eq] at hks
        have hj := Nat.eq_of_beq_eq_true hks.2
        simp only [Option.some.injEq] at h
        subst h
        obtain ⟨b, pc', hmem, hev, hpc'⟩ := ways_ok Φ ρ (mkAnd (mkLe (.c 0) n) (mkLt n len)) hp
        cases b with
        | false => exact .inl ⟨pc', List.mem_map.2 ⟨(false, pc'), hmem, rfl⟩, hpc'⟩
        | true =>
          right
          simp at hev
          refine ⟨pc', .cv (.p (some ⟨p.id, mkAdd p.r n, 0⟩)), ?_⟩
          simp only [den, denC] at hx
          split at hx
          · rename_i hc
            simp only [Option.map_eq_some_iff] at hx
            obtain ⟨addr, haddr, rfl⟩ := hx
            simp [den, denC] at hi
            subst hi
            obtain ⟨l, hl⟩ := obj_loc hM ho
            obtain ⟨hst, _⟩ := hM.obj p.id _ l ho hl
            refine ⟨.pointer (some (addr.add ((n.ev Φ ρ).toNat * sz))), List.mem_map.2 ⟨(true, pc'), hmem, rfl⟩, hpc', ?_, ?_⟩
            rotate_left
            · rw [run_indexAt_slice w t addr _ _ k _ he, hee, if_pos (by omega), run_sizeOf' hsz]
              rfl
            · unfold denPt at haddr
              rw [hl] at haddr
              simp only at haddr
              split at haddr
              · rename_i h0
                simp at haddr; subst haddr
                simp only [if_true, den, denC, denPt, hl, ev_mkAdd]
                rw [if_pos (by omega), add_eq _ rfl]
                simp only [Option.map_some, Option.some.injEq, Value.pointer.injEq, Addr.mk.injEq, true_and, and_true]
                rw [Int.toNat_add h0 hev.1, Nat.add_mul, hst, hks.1]
                omega
              · cases haddr
          · cases hx
      · cases h
    · rename_i cs0 ty0 sz ho hsz
      split at h
      · rename_i L
        simp only [Option.some.injEq] at h
        subst h
        rcases inRange_ok (n := n) (len := L) (f := fun k => (.cv (.p (some { p with j := p.j + k * sz })), s.m)) hp with h1 | ⟨pc', j, hmem, hp', hj, hlt⟩
        · exact .inl h1
        · right
          refine ⟨pc', .cv (.p (some { p with j := p.j + j * sz })), ?_⟩
          simp only [den, denC] at hx
          split at hx
          · rename_i hc
            simp only [Option.map_eq_some_iff] at hx
            obtain ⟨addr, haddr, rfl⟩ := hx
            simp [den, denC] at hi
            subst hi
            refine ⟨.pointer (some (addr.add (j * sz))), hmem, hp', ?_, ?_⟩
            · unfold denPt at haddr
              simp only [den, denC, denPt]
              cases hl : μ[p.id]? with
              | none => rw [hl] at haddr; cases haddr
              | some l =>
                rw [hl] at haddr
                simp only at haddr ⊢
                split at haddr
                · rename_i h0
                  simp at haddr; subst haddr
                  rw [if_pos h0, add_eq _ rfl]
                  simp [Nat.add_assoc]
                · cases haddr
            · rw [run_indexAt_slice w t addr _ _ k _ he, hee, hj]
              rw [if_pos (by refine ⟨by omega, ?_⟩; simp [SI.ev]; omega), run_sizeOf' hsz]
              rfl
          · cases hx
      · cases h
    · cases h
  · rename_i e id lo len cap k n hu
    have he : P.underlying t = some (.slice (P.elem t)) := by simp [Program.elem, hu]
    have hee : P.elem t = e := by simp [Program.elem, hu]
    split at h
    · rename_i ks ty A sz ho hsz
      split at h
      · rename_i hks
        simp only [Option.some.injEq] at h
        subst h
        obtain ⟨b, pc', hmem, hev, hpc'⟩ := ways_ok Φ ρ (mkAnd (mkLe (.c 0) n) (mkLt n len)) hp
        cases b with
        | false => exact .inl ⟨pc', List.mem_map.2 ⟨(false, pc'), hmem, rfl⟩, hpc'⟩
        | true =>
          right
          simp at hev
          obtain ⟨l, hl, h0, h1, h2, h3, h4, rfl⟩ := den_vs hx
          simp [den, denC] at hi
          subst hi
          have hR : RepVec ks ty (A.ev Φ ρ) w l := hM.obj id _ l ho hl
          have hnl : ¬ l.nl = true := fun e => by have := h4 e; omega
          have hv : vsVal l (lo.ev Φ ρ).toNat (len.ev Φ ρ).toNat (vcap Φ ρ l lo cap).toNat = .slice (some ⟨l.blk, l.base + (lo.ev Φ ρ).toNat * l.str, none⟩) (len.ev Φ ρ).toNat (vcap Φ ρ l lo cap).toNat := by
            unfold vsVal
            rw [if_neg hnl, if_neg (by omega)]
          refine ⟨pc', .cv (.p (some ⟨id, mkAdd lo n, 0⟩)), .pointer (some ((⟨l.blk, l.base + (lo.ev Φ ρ).toNat * l.str, none⟩ : Addr).add ((n.ev Φ ρ).toNat * sz))), List.mem_map.2 ⟨(true, pc'), hmem, rfl⟩, hpc', ?_, ?_⟩
          · simp only [den, denC, denPt, hl, ev_mkAdd]
            rw [if_pos (by omega), add_eq _ rfl]
            simp only [Option.map_some, Option.some.injEq, Value.pointer.injEq, Addr.mk.injEq, true_and, and_true]
            rw [Int.toNat_add h0 hev.1, Nat.add_mul, hR.1, hks]
            omega
          · rw [hv, run_indexAt_slice w t _ _ _ k _ he, hee, if_pos (by omega), run_sizeOf' hsz]
            rfl
      · cases h
    · rename_i A ks sz ho hsz
      split at h
      · rename_i hks
        simp only [Option.some.injEq] at h
        subst h
        obtain ⟨b, pc', hmem, hev, hpc'⟩ := ways_ok Φ ρ (mkAnd (mkLe (.c 0) n) (mkLt n len)) hp
        cases b with
        | false => exact .inl ⟨pc', List.mem_map.2 ⟨(false, pc'), hmem, rfl⟩, hpc'⟩
        | true =>
          right
          simp at hev
          obtain ⟨l, hl, h0, h1, h2, h3, h4, rfl⟩ := den_vs hx
          simp [den, denC] at hi
          subst hi
          have hR : ObjOK Φ ρ μ w l (.ext A ks) := hM.obj id _ l ho hl
          have hnl : ¬ l.nl = true := fun e => by have := h4 e; omega
          have hv : vsVal l (lo.ev Φ ρ).toNat (len.ev Φ ρ).toNat (vcap Φ ρ l lo cap).toNat = .slice (some ⟨l.blk, l.base + (lo.ev Φ ρ).toNat * l.str, none⟩) (len.ev Φ ρ).toNat (vcap Φ ρ l lo cap).toNat := by
            unfold vsVal
            rw [if_neg hnl, if_neg (by omega)]
          refine ⟨pc', .cv (.p (some ⟨id, mkAdd lo n, 0⟩)), .pointer (some ((⟨l.blk, l.base + (lo.ev Φ ρ).toNat * l.str, none⟩ : Addr).add ((n.ev Φ ρ).toNat * sz))), List.mem_map.2 ⟨(true, pc'), hmem, rfl⟩, hpc', ?_, ?_⟩
          · simp only [den, denC, denPt, hl, ev_mkAdd]
            rw [if_pos (by omega), add_eq _ rfl]
            simp only [Option.map_some, Option.some.injEq, Value.pointer.injEq, Addr.mk.injEq, true_and, and_true]
            rw [Int.toNat_add h0 hev.1, Nat.add_mul, hR.1, hks]
            omega
          · rw [hv, run_indexAt_slice w t _ _ _ k _ he, hee, if_pos (by omega), run_sizeOf' hsz]
            rfl
      · cases h
    · cases h
  · rename_i len e p k n hu
    split at h
    · rename_i sz hsz
      simp only [Option.some.injEq] at h
      subst h
      rcases inRange_ok (n := n) (len := len) (f := fun k => (.cv (.p (some { p with j := p.j + k * sz })), s.m)) hp with h1 | ⟨pc', j, hmem, hp', hj, hlt⟩
      · exact .inl h1
      · right
        obtain ⟨addr, haddr, rfl⟩ := den_ptr hx
        simp [den, denC] at hi
        subst hi
        refine ⟨pc', _, .pointer (some (addr.add (j * sz))), hmem, hp', ?_, ?_⟩
        · unfold denPt at haddr
          simp only [den, denC, denPt]
          cases hl : μ[p.id]? with
          | none => rw [hl] at haddr; cases haddr
          | some l =>
            rw [hl] at haddr
            simp only at haddr ⊢
            split at haddr
            · rename_i h0
              simp at haddr; subst haddr
              rw [if_pos h0, add_eq _ rfl]
              simp [Nat.add_assoc]
            · cases haddr
        · have he : P.underlying t = some (.array (P.arrayLen t) (P.elem t)) := by simp [Program.elem, Program.arrayLen, hu]
          have hee : P.elem t = e := by simp [Program.elem, hu]
          have hl : P.arrayLen t = len := by simp [Program.arrayLen, hu]
          rw [run_indexAt_array w t addr k _ he, hee, hl, hj, if_pos (by omega), run_sizeOf' hsz]
          rfl
    · cases h
  · cases h

theorem denT_get : ∀ {vs : List (CV ⊕ List CV)} {us : List Value}, denT Φ ρ μ vs = some us → ∀ (i : Nat),
    (∀ (c : CV), vs[i]? = some (Sum.inl c) → ∃ u, us[i]? = some u ∧ denC Φ ρ μ c = some u) ∧ (∀ (cs : List CV), vs[i]? = some (Sum.inr cs) → ∃ u, us[i]? = some u ∧ den Φ ρ μ (.agg cs) = some u)
  | [], us, h, i => by simp
  | .inl c :: vs, us, h, i => by
    simp only [denT] at h
    cases h1 : denC Φ ρ μ c with
    | none => rw [h1] at h; cases h
    | some u =>
      cases h2 : denT Φ ρ μ vs with
      | none => rw [h1, h2] at h; cases h
      | some us' =>
        rw [h1, h2] at h; simp at h; subst h
        cases i with
        | zero => simp; exact h1
        | succ i => simpa using denT_get h2 i
  | .inr cs :: vs, us, h, i => by
    simp only [denT] at h
    cases h1 : denL Φ ρ μ cs with
    | none => rw [h1] at h; cases h
    | some u =>
      cases h2 : denT Φ ρ μ vs with
      | none => rw [h1, h2] at h; cases h
      | some us' =>
        rw [h1, h2] at h; simp at h; subst h
        cases i with
        | zero => simp [den, h1]
        | succ i => simpa using denT_get h2 i

theorem zeros_ok {z : List CV} {zv : Array Value} (hz : denL Φ ρ μ z = some zv.toList) (h0 : 0 < z.length) (n : Nat) :
    denL Φ ρ μ (zeros z n) = some ((Array.range n).map fun i => zv[i % zv.size]!).toList := by
  rw [denL_iff] at hz ⊢
  have hs : zv.size = z.length := by simpa using hz.1
  refine ⟨by simp [zeros], fun i c v hc hv => ?_⟩
  simp only [zeros, List.getElem?_map, Option.map_eq_some_iff] at hc
  obtain ⟨k, hk, rfl⟩ := hc
  simp only [Array.toList_map, List.getElem?_map, Array.toList_range, Option.map_eq_some_iff] at hv
  obtain ⟨k', hk', rfl⟩ := hv
  rw [hk] at hk'; cases hk'
  have hlt : k % z.length < z.length := Nat.mod_lt _ h0
  have e1 : z[k % z.length]? = some (z.getD (k % z.length) .nilfn) := by simp [List.getD, List.getElem?_eq_getElem hlt]
  have e2 : zv.toList[k % z.length]? = some (zv[k % zv.size]!) := by
    rw [hs]
    have hlt' : k % z.length < zv.size := by rw [hs]; exact hlt
    simp [Array.getElem?_eq_getElem hlt', hlt']
  exact hz.2 _ _ _ e1 e2

theorem buildSlice_ok (hT : TRel Φ ρ μ s.n s.t a) (hM : MRel Φ ρ μ B s.m w) {t : TypeId} {len : Nat} {parts : Array (Nat × Operand)} {v : AV} {m : Mem} (h : buildSliceOp P s t len parts.toList = some (v, m)) :
    ∃ ν w' x, (Instr.buildSlice t len (parts.map fun (i, x) => (i, a.eval x))).run P w = .ok x w' ∧ den Φ ρ (μ ++ ν) v = some x ∧ MRel Φ ρ (μ ++ ν) B m w' := by
  unfold buildSliceOp at h
  split at h
  · rename_i e hu
    split at h
    · rename_i sz z vs hsz hz ho
      split at h
      · rename_i hc
        split at h
        · rename_i cs hf
          simp only [Option.some.injEq, Prod.mk.injEq] at h
          obtain ⟨rfl, rfl⟩ := h
          obtain ⟨zv, hzv, hzr, hnt⟩ := zero_ok (Φ := Φ) (ρ := ρ) (μ := μ) hz w
          have hcells := den_cells hzv hnt
          obtain ⟨hl, hr⟩ := operands_ok hT ho
          obtain ⟨cells', hfill, hd⟩ := fill_ok (Φ := Φ) (ρ := ρ) (μ := μ) (fun i => some (i * sz, sz)) vs (parts.map fun (i, x) => (i, a.eval x)).toList _ cs _ hf (by simp [hl])
            (fun j i i' v x h1 h2 => by
              simp only [Array.toList_map, List.getElem?_map, Option.map_eq_some_iff] at h2
              obtain ⟨y, hy, he⟩ := h2
              obtain ⟨e1, e2⟩ := hr j i v y h1 hy
              simp at he
              exact ⟨by rw [e1, he.1], by rw [e2, he.2]⟩) (zeros_ok hcells (by omega) (len * sz))
          refine ⟨[⟨w.heap.size, 0, 0, 0, false, [w.heap.size]⟩], w.alloc (.cells cells' e), .slice (some ⟨w.heap.size, 0, none⟩) len len, ?_, ?_, ?_⟩
          · have hne : ¬ len * sz = 0 := Nat.ne_of_gt (Nat.mul_pos hc.1 hc.2.1)
            simp only [Instr.buildSlice, Sem.run_bind, run_underlying hu, Result.andThen_ok, run_sizeOf' hsz]
            rw [if_neg (by omega)]
            simp only [Sem.run_bind, Sem.run_pure, Result.andThen_ok, hne, if_false, hzr, hfill]
            rfl
          · have : (μ ++ [(⟨w.heap.size, 0, 0, 0, false, [w.heap.size]⟩ : Loc)])[s.m.o.length]? = some ⟨w.heap.size, 0, 0, 0, false, [w.heap.size]⟩ := by
              rw [← hM.len, List.getElem?_append_right (Nat.le_refl _)]; simp
            simp [den, denC, denPt, this, SI.ev]
          · simpa using MRel.newCells hM cs cells'.toList e hd
        · cases h
      · cases h
    · cases h
  · cases h

theorem storeOp_ok (hM : MRel Φ ρ μ B s.m w) (hp : holds Φ ρ pc) {t : TypeId} {x y : AV} {vx vy : Value} {ws : List (List SB × Mem)} (h : storeOp P s pc t x y = some ws) (hx : den Φ ρ μ x = some vx) (hy : den Φ ρ μ y = some vy) :
    ∃ pc' m w', (pc', m) ∈ ws ∧ holds Φ ρ pc' ∧ (Instr.storeAt t vx vy).run P w = .ok () w' ∧ MRel Φ ρ μ B m w' := by
  unfold storeOp at h
  split at h
  · cases h
  · rename_i p n hnt hn
    obtain ⟨addr, haddr, rfl⟩ := den_ptr hx
    split at h
    · rename_i cs ty ho
      split at h
      · split at h
        · rename_i hle
          simp only [Bool.and_eq_true, decide_eq_true_eq] at hle
          simp at h; subst h
          obtain ⟨w', h1, h2⟩ := setCells_ok hM hn (fun vs e => hnt vs e) ho hle.1 hle.2 haddr hy
          exact ⟨pc, _, w', by simp, hp, h1, h2⟩
        · cases h
      · cases h
    · rename_i ks ty A ho
      split at h
      · rename_i hle
        simp only [Bool.and_eq_true, decide_eq_true_eq, beq_iff_eq] at hle
        simp only [Option.map_eq_some_iff] at h
        obtain ⟨l, hl, rfl⟩ := h
        obtain ⟨pc', xs, w', hmem, hp', h1, h2⟩ := vecStore_ok hM hp hn (fun vs e => hnt vs e) ho hle.1.1 hle.1.2 hle.2 hl haddr hy
        exact ⟨pc', _, w', List.mem_map.2 ⟨(pc', xs), hmem, rfl⟩, hp', h1, h2⟩
      · cases h
    · cases h
  · cases h

theorem optI_ok (hT : TRel Φ ρ μ s.n s.t a) {o : Option Operand} {r : Option SI} (h : optI s o = some r) : ∃ k : Option IntKind, o.map a.eval = r.map fun n => Value.int (k.getD .i64) (n.ev Φ ρ) := by
  cases o with
  | none => simp [optI] at h; subst h; exact ⟨none, rfl⟩
  | some x =>
    simp only [optI] at h
    split at h
    · rename_i k n hn
      simp at h; subst h
      have := opnd_ok hT hn
      simp [den, denC] at this
      exact ⟨some k, by simp [this]⟩
    · cases h

theorem vsVal_zero (l : Loc) (n c : Nat) : vsVal l 0 n c = if l.nl then .slice none 0 0 else .slice (some ⟨l.blk, l.base, none⟩) n c := by
  unfold vsVal; simp
theorem add_lit' (b o j : Nat) : (⟨b, o, none⟩ : Addr).add j = ⟨b, o + j, none⟩ := add_eq _ rfl j

theorem slice_ok (hM : MRel Φ ρ μ B s.m w) (hp : holds Φ ρ pc) {t : TypeId} {x : AV} {vx : Value} {lo hi mx : Option SI} {kl kh km : IntKind} {outs : List (List SB × Option (AV × Mem))} (h : sliceOp P s pc t x lo hi mx = some outs)
    (hx : den Φ ρ μ x = some vx) :
    (∃ pc', (pc', none) ∈ outs ∧ holds Φ ρ pc') ∨ ∃ pc' v u, (pc', some (v, s.m)) ∈ outs ∧ holds Φ ρ pc' ∧ den Φ ρ μ v = some u ∧
      (Instr.sliceAt t vx (lo.map fun n => .int kl (n.ev Φ ρ)) (hi.map fun n => .int kh (n.ev Φ ρ)) (mx.map fun n => .int km (n.ev Φ ρ))).run P w = .ok u w := by
  unfold sliceOp at h
  split at h
  · rename_i e id n hu
    have he : P.underlying t = some (.slice (P.elem t)) := by simp [Program.elem, hu]
    have hee : P.elem t = e := by simp [Program.elem, hu]
    rw [run_sliceAt_slice w t _ _ _ _ he]
    split at h
    · rename_i ks ty A sz ho hsz
      split at h
      · rename_i hc
        simp only [Bool.and_eq_true, decide_eq_true_eq] at hc
        obtain ⟨hks, hs⟩ := hc
        have hnA := SI.same_eq _ _ hs
        obtain ⟨l, hl, h0, h1, h2, h3, h4, rfl⟩ := den_vs hx
        have hR : RepVec ks ty (A.ev Φ ρ) w l := hM.obj id _ l ho hl
        simp only [vcap, ev_c, Int.sub_zero, Int.toNat_zero, Int.toNat_natCast, Int.zero_add] at h2 h3 hx ⊢
        -- what the run gives, whatever the bounds
        have hst : l.str = sz := by rw [hR.1, hks]
        have run : ∀ (b : Nat × Nat × Nat), (Instr.sliceBounds true (n.ev Φ ρ).toNat l.cap (lo.map fun n => .int kl (n.ev Φ ρ)) (hi.map fun n => .int kh (n.ev Φ ρ)) (mx.map fun n => .int km (n.ev Φ ρ))).run P w = .ok b w →
            b.1 ≤ b.2.1 → b.2.1 ≤ b.2.2 → b.2.2 ≤ l.cap →
            (Instr.slice t (vsVal l 0 (n.ev Φ ρ).toNat l.cap) (lo.map fun n => .int kl (n.ev Φ ρ)) (hi.map fun n => .int kh (n.ev Φ ρ)) (mx.map fun n => .int km (n.ev Φ ρ))).run P w = .ok (vsVal l b.1 (b.2.1 - b.1) (b.2.2 - b.1)) w := by
          intro b hb hb1 hb2 hb3
          rw [vsVal_zero]
          unfold vsVal
          by_cases hnl : l.nl = true
          · rw [if_pos hnl, if_pos hnl]
            have hc0 := h4 hnl
            have hn0 : (n.ev Φ ρ).toNat = 0 := by omega
            rw [hc0, hn0] at hb
            rw [run_slice_any w t _ _ _ he, hb]
            simp only [Result.andThen_ok, hee, run_sizeOf' hsz, sliced]
            have : b.1 = 0 ∧ b.2.1 = 0 ∧ b.2.2 = 0 := by omega
            simp [this]
          · rw [if_neg hnl, if_neg hnl]
            rw [run_slice_any w t _ _ _ he, hb]
            simp only [Result.andThen_ok, hee, run_sizeOf' hsz, sliced]
            congr 2
            by_cases hz : b.2.2 = b.1
            · rw [if_pos hz, if_pos (by omega)]
            · rw [if_neg hz, if_neg (by omega)]
              simp only [Option.map_some, add_lit', hst]
        have lowWays : ∀ (l' h' : SI), lo = some l' → mx = none → 0 ≤ h'.ev Φ ρ → h'.ev Φ ρ ≤ l.cap →
            (Instr.sliceBounds true (n.ev Φ ρ).toNat l.cap (lo.map fun n => .int kl (n.ev Φ ρ)) (hi.map fun n => .int kh (n.ev Φ ρ)) (mx.map fun n => .int km (n.ev Φ ρ))).run P w =
              ((Instr.sliceBound (.int kl (l'.ev Φ ρ)) (h'.ev Φ ρ).toNat .sliceB).run P w).andThen (fun x w => .ok (x, (h'.ev Φ ρ).toNat, l.cap) w) →
            outs = ((ways pc (mkAnd (mkLe (.c 0) l') (mkLe l' h'))).map fun y => (y.2, if y.1 then some (.cv (.vs id l' (mkSub h' l') none), s.m) else none)) →
            (∃ pc', (pc', none) ∈ outs ∧ holds Φ ρ pc') ∨ ∃ pc' v u, (pc', some (v, s.m)) ∈ outs ∧ holds Φ ρ pc' ∧ den Φ ρ μ v = some u ∧
              (Instr.slice t (vsVal l 0 (n.ev Φ ρ).toNat l.cap) (lo.map fun n => .int kl (n.ev Φ ρ)) (hi.map fun n => .int kh (n.ev Φ ρ)) (mx.map fun n => .int km (n.ev Φ ρ))).run P w = .ok u w := by
          intro l' h' hlo hmx hh0 hh1 hbnd ho
          subst ho
          obtain ⟨b, pc', hmem, hev, hpc'⟩ := ways_ok Φ ρ (mkAnd (mkLe (.c 0) l') (mkLe l' h')) hp
          cases b with
          | false => exact .inl ⟨pc', List.mem_map.2 ⟨(false, pc'), hmem, rfl⟩, hpc'⟩
          | true =>
            simp at hev
            rw [run_sliceBound w kl _ _ _ hev.1 (by omega)] at hbnd
            simp only [Result.andThen_ok] at hbnd
            have hrun := run _ hbnd (by simp; omega) (by simp; omega) (by simp)
            simp only at hrun
            refine .inr ⟨pc', _, _, List.mem_map.2 ⟨(true, pc'), hmem, rfl⟩, hpc', ?_, hrun⟩
            have := den_vs_mk (Φ := Φ) (ρ := ρ) (μ := μ) (lo := l') (len := mkSub h' l') (cap := none) hl hev.1 (by simp; omega) (by simp [vcap]; omega) (by simp only [vcap]; omega) h4
            simp only [if_true, den]
            rw [this]
            simp only [ev_mkSub, vcap]
            have e1 : (h'.ev Φ ρ - l'.ev Φ ρ).toNat = (h'.ev Φ ρ).toNat - (l'.ev Φ ρ).toNat := by omega
            have e2 : ((l.cap : Int) - l'.ev Φ ρ).toNat = l.cap - (l'.ev Φ ρ).toNat := by omega
            rw [e1, e2]
        split at h
        · split at h
          · split at h
            · -- no bounds
              simp at h; subst h
              refine .inr ⟨pc, _, _, List.mem_singleton.2 rfl, hp, hx, ?_⟩
              have := run (0, (n.ev Φ ρ).toNat, l.cap) (by simp [Instr.sliceBounds]) (by simp) (by simp; omega) (by simp)
              simpa using this
            · rename_i l'
              simp only [Option.some.injEq] at h
              exact lowWays l' n rfl rfl h1 h2 (by simp [Instr.sliceBounds, Sem.run_bind]) h.symm
          · rename_i h'
            split at h
            · rename_i hk
              have hk := known_ok Φ ρ hp _ _ hk
              simp at hk
              have hb : (Instr.sliceBound (.int kh (h'.ev Φ ρ)) l.cap .sliceAcap).run P w = .ok (h'.ev Φ ρ).toNat w := run_sliceBound w kh _ _ _ hk.1 (by omega)
              split at h
              · simp at h; subst h
                have hrun := run (0, (h'.ev Φ ρ).toNat, l.cap) (by simp [Instr.sliceBounds, Sem.run_bind, hb]) (by simp) (by simp; omega) (by simp)
                refine .inr ⟨pc, _, _, List.mem_singleton.2 rfl, hp, ?_, hrun⟩
                have := den_vs_mk (Φ := Φ) (ρ := ρ) (μ := μ) (lo := .c 0) (len := h') (cap := none) hl (by simp) hk.1 (by simp [vcap]; omega) (by simp only [vcap]; omega) h4
                simp only [den]
                rw [this]
                simp [vcap]
              · rename_i l'
                simp only [Option.some.injEq] at h
                exact lowWays l' h' rfl rfl hk.1 (by omega) (by simp [Instr.sliceBounds, Sem.run_bind, hb]) h.symm
            · cases h
        · rename_i m
          split at h
          · rename_i h'
            split at h
            · rename_i hk
              simp only [Bool.and_eq_true, beq_iff_eq] at hk
              have hmh := SI.same_eq _ _ hk.1
              have hk := known_ok Φ ρ hp _ _ hk.2
              simp at hk h; subst h
              subst hmh
              have hb : (Instr.sliceBound (.int km (m.ev Φ ρ)) l.cap .slice3Acap).run P w = .ok (m.ev Φ ρ).toNat w := run_sliceBound w km _ _ _ hk.1 (by omega)
              have hb2 : (Instr.sliceBound (.int kh (m.ev Φ ρ)) (m.ev Φ ρ).toNat .slice3B).run P w = .ok (m.ev Φ ρ).toNat w := run_sliceBound w kh _ _ _ hk.1 (by omega)
              have hrun := run (0, (m.ev Φ ρ).toNat, (m.ev Φ ρ).toNat) (by simp [Instr.sliceBounds, Sem.run_bind, hb, hb2]) (by simp) (by simp) (by simp; omega)
              refine .inr ⟨pc, _, _, List.mem_singleton.2 rfl, hp, ?_, hrun⟩
              have := den_vs_mk (Φ := Φ) (ρ := ρ) (μ := μ) (lo := .c 0) (len := m) (cap := some m) hl (by simp) hk.1 (by simp [vcap]) (by simp [vcap]; omega) h4
              simp only [den]
              rw [this]
              simp [vcap]
            · cases h
          · cases h
      · cases h
    · cases h
  · cases h

end
end Go.SF
