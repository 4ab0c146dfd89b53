/- One operation that calls nothing. -/
import Derived.Test.YtondflokjmdaiaaSEOps4
namespace Go.SE
set_option linter.unusedVariables false
set_option linter.unusedSimpArgs false

section
variable {D : Type} {Φ : Sig D} {ρ : Env D} {μ : List Loc} {P : Program} {w0 w : World} {s : St} {a : Act} {pc : List SB}

theorem idxs_ok {n : SI} : ∀ {rem k : Nat} {pc : List SB}, holds Φ ρ pc → (k : Int) ≤ n.ev Φ ρ → n.ev Φ ρ < (k : Int) + rem → ∃ pc' j, (pc', j) ∈ idxs n rem k pc ∧ holds Φ ρ pc' ∧ n.ev Φ ρ = (j : Int)
  | 0, k, pc, hp, h1, h2 => by omega
  | rem + 1, k, pc, hp, h1, h2 => by
    obtain ⟨b, pc', hmem, hev, hp'⟩ := ways_ok Φ ρ (mkEq n (.c k)) hp
    cases b with
    | true =>
      refine ⟨pc', k, ?_, hp', by rw [evB_mkEq] at hev; exact of_decide_eq_true hev⟩
      simp only [idxs, List.mem_flatMap]
      exact ⟨_, hmem, by simp⟩
    | false =>
      have hne : ¬ n.ev Φ ρ = (k : Int) := by rw [evB_mkEq] at hev; exact of_decide_eq_false hev
      obtain ⟨pc2, j, hm2, hp2, hj⟩ := idxs_ok (n := n) (rem := rem) (k := k + 1) hp' (by omega) (by omega)
      refine ⟨pc2, j, ?_, hp2, hj⟩
      simp only [idxs, List.mem_flatMap]
      exact ⟨_, hmem, by simpa using hm2⟩

theorem inRange_ok {n : SI} {len : Nat} {f : Nat → AV × Mem} (hp : holds Φ ρ pc) :
    (∃ pc', (pc', none) ∈ inRange pc n len f ∧ holds Φ ρ pc') ∨ ∃ pc' j, (pc', some (f j)) ∈ inRange pc n len f ∧ holds Φ ρ pc' ∧ n.ev Φ ρ = (j : Int) ∧ j < len := by
  obtain ⟨b, pc', hmem, hev, hp'⟩ := ways_ok Φ ρ (mkAnd (mkLe (.c 0) n) (mkLt n (.c len))) hp
  cases b with
  | false =>
    refine .inl ⟨pc', ?_, hp'⟩
    simp only [inRange, List.mem_flatMap]
    exact ⟨_, hmem, by simp⟩
  | true =>
    rw [evB_mkAnd, evB_mkLe, evB_mkLt, Bool.and_eq_true] at hev
    have hev : 0 ≤ n.ev Φ ρ ∧ n.ev Φ ρ < (len : Int) := ⟨of_decide_eq_true hev.1, of_decide_eq_true hev.2⟩
    obtain ⟨pc2, j, hm2, hp2, hj⟩ := idxs_ok (n := n) (rem := len) (k := 0) hp' (by omega) (by omega)
    refine .inr ⟨pc2, j, ?_, hp2, hj, by omega⟩
    simp only [inRange, List.mem_flatMap, List.mem_map]
    exact ⟨_, hmem, by simp; exact ⟨_, _, hm2, rfl, rfl⟩⟩

theorem index_ok (hM : MRel Φ ρ μ w0 s.m w) (hp : holds Φ ρ pc) {t : TypeId} {x i : AV} {vx vi : Value} {outs : List (List SB × Option (AV × Mem))} (h : indexAddr P s pc t x i = some outs)
    (hx : den Φ ρ μ x = some vx) (hi : den Φ ρ μ i = some vi) :
    (∃ pc', (pc', none) ∈ outs ∧ holds Φ ρ pc') ∨ ∃ pc' v u, (pc', some (v, s.m)) ∈ outs ∧ holds Φ ρ pc' ∧ den Φ ρ μ v = some u ∧ (Instr.indexAt t vx vi).run P w = .ok u w := by
  unfold indexAddr at h
  split at h
  · rename_i e id r len cap k n hu
    split at h
    · rename_i A ks sz ho hsz
      split at h
      · rename_i hks
        simp only [Option.some.injEq] at h
        subst h
        obtain ⟨b, pc', hmem, hev, hpc'⟩ := ways_ok Φ ρ (mkAnd (mkLe (.c 0) n) (mkLt n len)) hp
        cases b with
        | false => exact .inl ⟨pc', List.mem_map.2 ⟨(false, pc'), hmem, rfl⟩, hpc'⟩
        | true =>
          right
          simp at hev
          refine ⟨pc', .cv (.p (some ⟨id, mkAdd r n, 0⟩)), ?_⟩
          simp only [den, denC] at hx
          split at hx
          · rename_i hc
            simp only [Option.map_eq_some_iff] at hx
            obtain ⟨addr, haddr, rfl⟩ := hx
            simp [den, denC] at hi
            subst hi
            obtain ⟨l, hl⟩ := obj_loc hM ho
            obtain ⟨hst, _, _⟩ := hM.obj id _ l ho hl
            refine ⟨.pointer (some (addr.add ((n.ev Φ ρ).toNat * sz))), List.mem_map.2 ⟨(true, pc'), hmem, rfl⟩, hpc', ?_, ?_⟩
            rotate_left
            · have he : P.underlying t = some (.slice (P.elem t)) := by simp [Program.elem, hu]
              have hee : P.elem t = e := by simp [Program.elem, hu]
              rw [run_indexAt_slice w t addr _ _ k _ he, hee, if_pos (by omega), run_sizeOf' hsz]
              rfl
            · unfold denPt at haddr
              rw [hl] at haddr
              simp only at haddr
              split at haddr
              · rename_i h0
                simp at haddr; subst haddr
                simp only [if_true, den, denC, denPt, hl, ev_mkAdd]
                rw [if_pos (by omega), add_eq _ rfl]
                simp only [Option.map_some, Option.some.injEq, Value.pointer.injEq, Addr.mk.injEq, true_and, and_true]
                rw [Int.toNat_add h0 hev.1, Nat.add_mul, hst, hks]
                omega
              · cases haddr
          · cases hx
      · cases h
    · rename_i cs0 ty0 sz ho hsz
      split at h
      · rename_i L
        simp only [Option.some.injEq] at h
        subst h
        rcases inRange_ok (n := n) (len := L) (f := fun k => (.cv (.p (some ⟨id, r, k * sz⟩)), s.m)) hp with h1 | ⟨pc', j, hmem, hp', hj, hlt⟩
        · exact .inl h1
        · right
          refine ⟨pc', .cv (.p (some ⟨id, r, j * sz⟩)), ?_⟩
          simp only [den, denC] at hx
          split at hx
          · rename_i hc
            simp only [Option.map_eq_some_iff] at hx
            obtain ⟨addr, haddr, rfl⟩ := hx
            simp [den, denC] at hi
            subst hi
            obtain ⟨l, hl⟩ := obj_loc hM ho
            obtain ⟨hb0, hst, _⟩ := hM.obj id _ l ho hl
            refine ⟨.pointer (some (addr.add (j * sz))), hmem, hp', ?_, ?_⟩
            · unfold denPt at haddr
              rw [hl] at haddr
              simp only at haddr
              split at haddr
              · rename_i h0
                simp at haddr; subst haddr
                simp only [den, denC, denPt, hl]
                rw [if_pos h0, add_eq _ rfl]
                simp
              · cases haddr
            · have he : P.underlying t = some (.slice (P.elem t)) := by simp [Program.elem, hu]
              have hee : P.elem t = e := by simp [Program.elem, hu]
              rw [run_indexAt_slice w t addr _ _ k _ he, hee, hj]
              rw [if_pos (by refine ⟨by omega, ?_⟩; simp [SI.ev]; omega), run_sizeOf' hsz]
              rfl
          · cases hx
      · cases h
    · cases h
  · rename_i len e p k n hu
    split at h
    · rename_i sz hsz
      simp only [Option.some.injEq] at h
      subst h
      rcases inRange_ok (n := n) (len := len) (f := fun k => (.cv (.p (some { p with j := p.j + k * sz })), s.m)) hp with h1 | ⟨pc', j, hmem, hp', hj, hlt⟩
      · exact .inl h1
      · right
        obtain ⟨addr, haddr, rfl⟩ := den_ptr hx
        simp [den, denC] at hi
        subst hi
        refine ⟨pc', _, .pointer (some (addr.add (j * sz))), hmem, hp', ?_, ?_⟩
        · unfold denPt at haddr
          simp only [den, denC, denPt]
          cases hl : μ[p.id]? with
          | none => rw [hl] at haddr; cases haddr
          | some l =>
            rw [hl] at haddr
            simp only at haddr ⊢
            split at haddr
            · rename_i h0
              simp at haddr; subst haddr
              rw [if_pos h0, add_eq _ rfl]
              simp [Nat.add_assoc]
            · cases haddr
        · have he : P.underlying t = some (.array (P.arrayLen t) (P.elem t)) := by simp [Program.elem, Program.arrayLen, hu]
          have hee : P.elem t = e := by simp [Program.elem, hu]
          have hl : P.arrayLen t = len := by simp [Program.arrayLen, hu]
          rw [run_indexAt_array w t addr k _ he, hee, hl, hj, if_pos (by omega), run_sizeOf' hsz]
          rfl
    · cases h
  · cases h

theorem denT_get : ∀ {vs : List (CV ⊕ List CV)} {us : List Value}, denT Φ ρ μ vs = some us → ∀ (i : Nat),
    (∀ (c : CV), vs[i]? = some (Sum.inl c) → ∃ u, us[i]? = some u ∧ denC Φ ρ μ c = some u) ∧ (∀ (cs : List CV), vs[i]? = some (Sum.inr cs) → ∃ u, us[i]? = some u ∧ den Φ ρ μ (.agg cs) = some u)
  | [], us, h, i => by simp
  | .inl c :: vs, us, h, i => by
    simp only [denT] at h
    cases h1 : denC Φ ρ μ c with
    | none => rw [h1] at h; cases h
    | some u =>
      cases h2 : denT Φ ρ μ vs with
      | none => rw [h1, h2] at h; cases h
      | some us' =>
        rw [h1, h2] at h; simp at h; subst h
        cases i with
        | zero => simp; exact h1
        | succ i => simpa using denT_get h2 i
  | .inr cs :: vs, us, h, i => by
    simp only [denT] at h
    cases h1 : denL Φ ρ μ cs with
    | none => rw [h1] at h; cases h
    | some u =>
      cases h2 : denT Φ ρ μ vs with
      | none => rw [h1, h2] at h; cases h
      | some us' =>
        rw [h1, h2] at h; simp at h; subst h
        cases i with
        | zero => simp [den, h1]
        | succ i => simpa using denT_get h2 i

theorem zeros_ok {z : List CV} {zv : Array Value} (hz : denL Φ ρ μ z = some zv.toList) (h0 : 0 < z.length) (n : Nat) :
    denL Φ ρ μ (zeros z n) = some ((Array.range n).map fun i => zv[i % zv.size]!).toList := by
  rw [denL_iff] at hz ⊢
  have hs : zv.size = z.length := by simpa using hz.1
  refine ⟨by simp [zeros], fun i c v hc hv => ?_⟩
  simp only [zeros, List.getElem?_map, Option.map_eq_some_iff] at hc
  obtain ⟨k, hk, rfl⟩ := hc
  simp only [Array.toList_map, List.getElem?_map, Array.toList_range, Option.map_eq_some_iff] at hv
  obtain ⟨k', hk', rfl⟩ := hv
  rw [hk] at hk'; cases hk'
  have hlt : k % z.length < z.length := Nat.mod_lt _ h0
  have e1 : z[k % z.length]? = some (z.getD (k % z.length) .nilfn) := by simp [List.getD, List.getElem?_eq_getElem hlt]
  have e2 : zv.toList[k % z.length]? = some (zv[k % zv.size]!) := by
    rw [hs]
    have hlt' : k % z.length < zv.size := by rw [hs]; exact hlt
    simp [Array.getElem?_eq_getElem hlt', hlt']
  exact hz.2 _ _ _ e1 e2

theorem buildSlice_ok (hT : TRel Φ ρ μ s.n s.t a) (hM : MRel Φ ρ μ w0 s.m w) {t : TypeId} {len : Nat} {parts : Array (Nat × Operand)} {v : AV} {m : Mem} (h : buildSliceOp P s t len parts.toList = some (v, m)) :
    ∃ ν w' x, (Instr.buildSlice t len (parts.map fun (i, x) => (i, a.eval x))).run P w = .ok x w' ∧ den Φ ρ (μ ++ ν) v = some x ∧ MRel Φ ρ (μ ++ ν) w0 m w' ∧ ∀ l ∈ ν, w.heap.size ≤ l.blk := by
  unfold buildSliceOp at h
  split at h
  · rename_i e hu
    split at h
    · rename_i sz z vs hsz hz ho
      split at h
      · rename_i hc
        split at h
        · rename_i cs hf
          simp only [Option.some.injEq, Prod.mk.injEq] at h
          obtain ⟨rfl, rfl⟩ := h
          obtain ⟨zv, hzv, hzr, hnt⟩ := zero_ok (Φ := Φ) (ρ := ρ) (μ := μ) hz w
          have hcells := den_cells hzv hnt
          obtain ⟨hl, hr⟩ := operands_ok hT ho
          obtain ⟨cells', hfill, hd⟩ := fill_ok (Φ := Φ) (ρ := ρ) (μ := μ) (fun i => some (i * sz, sz)) vs (parts.map fun (i, x) => (i, a.eval x)).toList _ cs _ hf (by simp [hl])
            (fun j i i' v x h1 h2 => by
              simp only [Array.toList_map, List.getElem?_map, Option.map_eq_some_iff] at h2
              obtain ⟨y, hy, he⟩ := h2
              obtain ⟨e1, e2⟩ := hr j i v y h1 hy
              simp at he
              exact ⟨by rw [e1, he.1], by rw [e2, he.2]⟩) (zeros_ok hcells (by omega) (len * sz))
          refine ⟨[⟨w.heap.size, 0, 0⟩], w.alloc (.cells cells' e), .slice (some ⟨w.heap.size, 0, none⟩) len len, ?_, ?_, ?_, by simp⟩
          · have hne : ¬ len * sz = 0 := Nat.ne_of_gt (Nat.mul_pos hc.1 hc.2.1)
            simp only [Instr.buildSlice, Sem.run_bind, run_underlying hu, Result.andThen_ok, run_sizeOf' hsz]
            rw [if_neg (by omega)]
            simp only [Sem.run_bind, Sem.run_pure, Result.andThen_ok, hne, if_false, hzr, hfill]
            rfl
          · have : (μ ++ [(⟨w.heap.size, 0, 0⟩ : Loc)])[s.m.o.length]? = some ⟨w.heap.size, 0, 0⟩ := by
              rw [← hM.len, List.getElem?_append_right (Nat.le_refl _)]; simp
            simp [den, denC, denPt, this, SI.ev]
          · simpa using MRel.new hM cs cells'.toList e hd
        · cases h
      · cases h
    · cases h
  · cases h

theorem step_ok (hT : TRel Φ ρ μ s.n s.t a) (hM : MRel Φ ρ μ w0 s.m w) (hp : holds Φ ρ pc) (o : Oper) {outs : List (List SB × Option (AV × Mem))} (h : stepOp P s pc o.op = some outs) :
    StepGood Φ ρ μ P w0 w a o outs := by
  obtain ⟨dst, op, ty, pos, after, guard⟩ := o
  simp only at h
  unfold stepOp at h
  split at h
  case h_1 x =>
    obtain ⟨v, hv, rfl⟩ := one_inv h
    exact good_one hM hp (x := a.eval x) (by simp [execOp]) (opnd_ok hT hv)
  case h_2 x =>
    obtain ⟨v, hv, rfl⟩ := one_inv h
    exact good_one hM hp (x := a.eval x) (by simp [execOp]) (opnd_ok hT hv)
  case h_3 c x y =>
    split at h
    · rename_i b hb
      have hcb := opnd_ok hT hb
      simp only [den, denC, Option.some.injEq] at hcb
      have hrun : ∀ t, b.ev Φ ρ = t → (execOp a.eval ⟨dst, .pick c x y, ty, pos, after, guard⟩).run P w = .ok (.value (if t then a.eval x else a.eval y)) w := by
        intro t ht
        simp only [execOp, ← hcb, ht, asBool, Sem.run_bind, Sem.run_pure, Result.andThen_ok]
      split at h
      · rename_i hk
        obtain ⟨v, hv, rfl⟩ := one_inv h
        exact good_one hM hp (hrun true (known_ok Φ ρ hp _ _ hk)) (opnd_ok hT hv)
      · rename_i hk
        obtain ⟨v, hv, rfl⟩ := one_inv h
        exact good_one hM hp (hrun false (known_ok Φ ρ hp _ _ hk)) (opnd_ok hT hv)
      · split at h
        · rename_i u v hu hv
          simp only [Option.some.injEq] at h
          subst h
          cases hbv : b.ev Φ ρ with
          | true => exact .inr ⟨_, u, s.m, [], w, _, _, List.mem_cons_self .., addFact_ok Φ ρ hp hbv, hrun true hbv, .inl rfl, by simpa using opnd_ok hT hu, by simpa using hM, fun _ => ⟨rfl, rfl⟩, by simp⟩
          | false => exact .inr ⟨_, v, s.m, [], w, _, _, List.mem_cons_of_mem _ (List.mem_cons_self ..), addFact_ok Φ ρ hp (by simp [hbv]), hrun false hbv, .inl rfl, by simpa using opnd_ok hT hv, by simpa using hM, fun _ => ⟨rfl, rfl⟩, by simp⟩
        · cases h
    · cases h
  case h_4 t =>
    split at h
    · rename_i z hz
      simp only [Option.some.injEq] at h
      subst h
      obtain ⟨v, hv, hrun, hnt⟩ := zero_ok (Φ := Φ) (ρ := ρ) (μ := μ) hz w
      obtain ⟨ν, w', x, hn, hd, hM', hν⟩ := new_ok (P := P) (t := t) hM hv hnt
      refine .inr ⟨pc, _, _, ν, w', _, _, List.mem_singleton.2 rfl, hp, ?_, .inl rfl, hd, hM', fun h => by simp [mutOp] at h, hν⟩
      simp [execOp, Instr.alloc, Sem.run_bind, hrun, hn]
    · cases h
  case h_5 t x =>
    split at h
    · cases h
    · rename_i v hnt hv
      simp only [Option.some.injEq] at h
      subst h
      obtain ⟨ν, w', x', hn, hd, hM', hν⟩ := new_ok (P := P) (t := t) hM (opnd_ok hT hv) (fun vs e => hnt vs (e ▸ rfl))
      refine .inr ⟨pc, _, _, ν, w', _, _, List.mem_singleton.2 rfl, hp, ?_, .inl rfl, hd, hM', fun h => by simp [mutOp] at h, hν⟩
      simp [execOp, Instr.box, Sem.run_bind, hn]
    · cases h
  case h_6 t ps =>
    obtain ⟨v, hv, rfl⟩ := one_inv h
    obtain ⟨u, hu, hr⟩ := build_ok (w := w) hT hv
    refine good_one hM hp (x := u) ?_ hu
    simp only [execOp, Sem.run_bind, hr, Result.andThen_ok, Sem.run_pure]
  case h_7 t x =>
    split at h
    · rename_i av hav
      obtain ⟨v, hv, rfl⟩ := one_inv h
      obtain ⟨u, hu, hr⟩ := load_ok hM hp hv (opnd_ok hT hav)
      exact good_one hM hp (x := u) (by simp [execOp, Sem.run_bind, hr]) hu
    · cases h
  case h_8 t x y =>
    split at h
    · rename_i ax ay hx hy
      simp only [Option.map_eq_some_iff] at h
      obtain ⟨m, hm, rfl⟩ := h
      obtain ⟨w', hr, hM'⟩ := store_ok hM hm (opnd_ok hT hx) (opnd_ok hT hy)
      refine .inr ⟨pc, undefV, m, [], w', undef, .skip, List.mem_singleton.2 rfl, hp, by simp [execOp, Sem.run_bind, hr], .inr ⟨rfl, rfl⟩, by simp [undefV, den, denT, undef], by simpa using hM', fun h => by simp [mutOp] at h, by simp⟩
    · cases h
  case h_9 x =>
    split at h
    · rename_i p hp'
      obtain ⟨v, hv, rfl⟩ := one_inv h
      simp at hv; subst hv
      obtain ⟨addr, haddr, he⟩ := den_ptr (opnd_ok hT hp')
      refine good_one hM hp (x := a.eval x) ?_ (opnd_ok hT hp')
      simp only [execOp, he]; rfl
    · cases h
  case h_10 op t x y t' =>
    split at h
    · rename_i ax ay hx hy
      obtain ⟨v, hv, rfl⟩ := one_inv h
      obtain ⟨u, hu, hg, hr⟩ := binop_ok (w := w) x y hv (opnd_ok hT hx) (opnd_ok hT hy)
      exact good_one hM hp (x := u) (by simp only [execOp, Sem.run_bind, hg, hr, Result.andThen_ok, Sem.run_pure]) hu
    · cases h
  case h_11 op t x =>
    split at h
    · rename_i ax hx
      obtain ⟨v, hv, rfl⟩ := one_inv h
      obtain ⟨u, hu, hr⟩ := unop_ok (P := P) (w := w) hv (opnd_ok hT hx)
      exact good_one hM hp (x := u) (by simp only [execOp, Sem.run_bind, hr, Result.andThen_ok, Sem.run_pure]) hu
    · cases h
  case h_12 t t' x =>
    split at h
    · rename_i ax hx
      obtain ⟨v, hv, rfl⟩ := one_inv h
      obtain ⟨u, hu, hr⟩ := conv_ok (w := w) hv (opnd_ok hT hx)
      exact good_one hM hp (x := u) (by simp only [execOp, Sem.run_bind, hr, Result.andThen_ok, Sem.run_pure]) hu
    · cases h
  case h_13 t x i =>
    split at h
    · rename_i ax hx
      obtain ⟨v, hv, rfl⟩ := one_inv h
      obtain ⟨u, hu, hr⟩ := fieldAddr_ok (w := w) hv (opnd_ok hT hx)
      exact good_one hM hp (x := u) (by simp only [execOp, Sem.run_bind, hr, Result.andThen_ok, Sem.run_pure]) hu
    · cases h
  case h_14 t x i =>
    split at h
    · rename_i ax ai hx hi
      rcases index_ok hM hp h (opnd_ok hT hx) (opnd_ok hT hi) with h1 | ⟨pc', v, u, hmem, hp', hv, hr⟩
      · exact .inl h1
      · exact .inr ⟨pc', v, s.m, [], w, u, _, hmem, hp', by simp only [execOp, Sem.run_bind, hr, Result.andThen_ok, Sem.run_pure], .inl rfl, by simpa using hv, by simpa using hM, fun _ => ⟨rfl, rfl⟩, by simp⟩
    · cases h
  case h_15 x i =>
    split at h
    · rename_i vs hvs
      have hd := opnd_ok hT hvs
      simp only [den, Option.map_eq_some_iff] at hd
      obtain ⟨us, hus, he⟩ := hd
      split at h
      · rename_i c hc
        obtain ⟨v, hv, rfl⟩ := one_inv h
        simp at hv; subst hv
        obtain ⟨u, hu, hcu⟩ := (denT_get hus i).1 c hc
        exact good_one hM hp (x := u) (by simp [execOp, ← he, Instr.extract, hu, Sem.run_bind]) hcu
      · rename_i cs hc
        obtain ⟨v, hv, rfl⟩ := one_inv h
        simp at hv; subst hv
        obtain ⟨u, hu, hcu⟩ := (denT_get hus i).2 cs hc
        exact good_one hM hp (x := u) (by simp [execOp, ← he, Instr.extract, hu, Sem.run_bind]) hcu
      · cases h
    · cases h
  case h_16 args argTypes =>
    split at h
    · rename_i x t hx ht
      split at h
      · rename_i ax hax
        obtain ⟨v, hv, rfl⟩ := one_inv h
        obtain ⟨u, hu, hr⟩ := len_ok (w := w) ty hv (opnd_ok hT hax)
        have e1 : args = #[x] := Array.ext' hx
        have e2 : argTypes = #[t] := Array.ext' ht
        subst e1; subst e2
        refine good_one hM hp (x := u) ?_ hu
        simp [execOp, resolve, invoke, builtin, Sem.run_bind, hr]
      · cases h
    · cases h
  case h_17 t len ps =>
    simp only [Option.map_eq_some_iff] at h
    obtain ⟨vm, hv, rfl⟩ := h
    obtain ⟨ν, w', x, hr, hd, hM', hν⟩ := buildSlice_ok hT hM hv
    refine .inr ⟨pc, _, _, ν, w', x, _, List.mem_singleton.2 rfl, hp, ?_, .inl rfl, hd, hM', fun h => by simp [mutOp] at h, hν⟩
    simp only [execOp, Sem.run_bind, hr, Result.andThen_ok, Sem.run_pure]
  case h_18 => cases h
end
end Go.SE
