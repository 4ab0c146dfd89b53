/- One operation that calls nothing: whatever the machine of unknowns says of it is so. -/
import Derived.Test.YtnhdohhhgfdhfaaSFMap
namespace Go.SF
set_option linter.unusedVariables false
set_option linter.deprecated false
set_option linter.unusedSimpArgs false

section
variable {Φ : Sig} {ρ : Env} {μ : List Loc} {P : Program} {B : Base} {w : World} {s : St} {a : Act} {pc : List SB}

theorem field_ok {t : TypeId} {x v : AV} {vx : Value} {i : Nat} (h : fieldOp P t x i = some v) (hx : den Φ ρ μ x = some vx) : ∃ u, den Φ ρ μ v = some u ∧ (Instr.field t vx i).run P w = .ok u w := by
  unfold fieldOp at h
  split at h
  · rename_i fs cs hu
    obtain ⟨vs, hvs, rfl⟩ := den_agg hx
    have hvl := denL_length hvs
    split at h
    · rename_i f hf
      split at h
      · rename_i n hn ha
        split at h
        · rename_i hle
          simp at h; subst h
          refine ⟨_, by simp only [den, denL_take n (denL_drop f.offset hvs)]; rfl, ?_⟩
          have h0 : (asAgg (.agg vs.toArray)).run P w = .ok vs.toArray w := rfl
          simp only [Instr.field, Sem.run_bind, run_underlying hu, Result.andThen_ok, hf, h0, part, run_isAgg' ha, if_true, run_sizeOf' hn, Sem.run_pure]
          congr 2
          simp [List.extract_eq_drop_take]
        · cases h
      · rename_i n hn ha
        split at h
        · rename_i c hc
          simp at h; subst h
          have hlt := (List.getElem?_eq_some_iff.1 hc).1
          have hv : vs[f.offset]? = some vs[f.offset] := List.getElem?_eq_getElem (by omega)
          refine ⟨_, (denL_iff.1 hvs).2 _ _ _ hc hv, ?_⟩
          have h0 : (asAgg (.agg vs.toArray)).run P w = .ok vs.toArray w := rfl
          simp only [Instr.field, Sem.run_bind, run_underlying hu, Result.andThen_ok, hf, h0, part, run_isAgg' ha, Bool.false_eq_true, if_false]
          simp [hv]
        · cases h
      · cases h
    · cases h
  · cases h

theorem pts_ok (hT : TRel Φ ρ μ s.n s.t a) : ∀ {xs : List Operand} {ps : List Pt}, ptsOf s xs = some ps → denPts Φ ρ μ ps = some (xs.map a.eval)
  | [], ps, h => by simp [ptsOf] at h; subst h; rfl
  | x :: xs, ps, h => by
    simp only [ptsOf] at h
    split at h
    · rename_i p qs hp hq
      simp at h; subst h
      obtain ⟨ad, had, he⟩ := den_ptr (opnd_ok hT hp)
      simp [denPts, had, pts_ok hT hq, he]
    · cases h

theorem minmax_ok {least : Bool} {ty : TypeId} {argTypes : Array TypeId} {x y v : AV} {vx vy : Value} (h : minmax least x y = some v) (hx : den Φ ρ μ x = some vx) (hy : den Φ ρ μ y = some vy) :
    ∃ u, den Φ ρ μ v = some u ∧ (if least then Builtin.min_ argTypes ty #[vx, vy] else Builtin.max_ argTypes ty #[vx, vy]).run P w = .ok u w := by
  unfold minmax at h
  split at h
  · rename_i k a l b
    simp [den, denC] at hx hy; subst hx; subst hy
    have hrun : (if least then Builtin.min_ argTypes ty #[.int k (a.ev Φ ρ), .int l (b.ev Φ ρ)] else Builtin.max_ argTypes ty #[.int k (a.ev Φ ρ), .int l (b.ev Φ ρ)]).run P w =
        .ok (.int k (if least then min (a.ev Φ ρ) (b.ev Φ ρ) else max (a.ev Φ ρ) (b.ev Φ ρ))) w := by
      have h1 : (if b.ev Φ ρ > a.ev Φ ρ then b.ev Φ ρ else a.ev Φ ρ) = max (a.ev Φ ρ) (b.ev Φ ρ) := by rw [Int.max_def]; split <;> split <;> omega
      have h2 : (if b.ev Φ ρ < a.ev Φ ρ then b.ev Φ ρ else a.ev Φ ρ) = min (a.ev Φ ρ) (b.ev Φ ρ) := by rw [Int.min_def]; split <;> split <;> omega
      cases least
      · simp only [Builtin.max_, Builtin.max2, List.foldlM, h1]; simp [Builtin.max2, h1]
      · simp only [Builtin.min_, Builtin.min2, List.foldlM, h2]; simp [Builtin.min2, h2]
    split at h
    · rename_i n m
      simp at h; subst h
      refine ⟨_, ?_, hrun⟩
      cases least <;> simp [den, denC]
    · simp at h; subst h
      refine ⟨_, ?_, hrun⟩
      cases least <;> simp [den, denC, ev_app, appI_std, stdI]
  · cases h

theorem makeSlice_ok (hM : MRel Φ ρ μ B s.m w) (hp : holds Φ ρ pc) {t : TypeId} {n c v : AV} {m : Mem} {vn vc : Value} (h : makeSliceOp P s pc t n c = some (v, m)) (hn : den Φ ρ μ n = some vn) (hc : den Φ ρ μ c = some vc) :
    ∃ ν w' x, (Instr.makeSlice t vn vc).run P w = .ok x w' ∧ den Φ ρ (μ ++ ν) v = some x ∧ MRel Φ ρ (μ ++ ν) B m w' := by
  unfold makeSliceOp at h
  split at h
  · rename_i e n c hu
    simp [den, denC] at hn hc; subst hn; subst hc
    split at h
    · rename_i info z hi hz
      split at h
      · rename_i hcond
        simp only [Bool.and_eq_true, decide_eq_true_eq] at hcond
        obtain ⟨⟨⟨⟨hs, hlo⟩, hf⟩, h0⟩, hzl⟩ := hcond
        have := SI.same_eq _ _ hs
        subst this
        obtain ⟨lo, hlo1, hlo2⟩ := leO_ok hlo
        have hlo3 := lo_ok Φ ρ hp hlo1
        have hn0 : 0 ≤ n.ev Φ ρ := by omega
        obtain ⟨hb, hmx⟩ := fits_ok hp hf hn0
        obtain ⟨zv, hzv, hzrun, hnt⟩ := zero_ok (Φ := Φ) (ρ := ρ) (μ := μ) hz w
        have hzi : info.zero = some zv := by
          unfold tyZero at hz
          simp only [Option.bind_eq_some_iff] at hz
          obtain ⟨zv', ⟨i', hi', hiz⟩, hzz⟩ := hz
          rw [hi] at hi'; cases hi'
          have := absV_ok (Φ := Φ) (ρ := ρ) (μ := μ) hzz
          rw [hzv] at this; simp at this; rw [this]; exact hiz
        have hzc := den_cells hzv hnt
        have hzcl := denL_length hzc
        have hb' : (info.bytes : Int) * n.ev Φ ρ ≤ 281474976710656 := by
          have : ((n.ev Φ ρ).toNat * info.bytes : Nat) ≤ 281474976710656 := hb
          have h2 : (((n.ev Φ ρ).toNat * info.bytes : Nat) : Int) ≤ 281474976710656 := by omega
          rw [Int.natCast_mul, Int.toNat_of_nonneg hn0, Int.mul_comm] at h2
          exact h2
        have hrun := run_make (P := P) w t e info zv hu hi hzi .i64 .i64 (n.ev Φ ρ) (n.ev Φ ρ) hn0 (Int.le_refl _) hb' (by simp only [maxLen] at hmx; omega)
        have hz1 : zv.cells.size = info.size := by have : zv.cells.toList.length = zv.cells.size := rfl; omega
        split at h
        · rename_i ks hfl
          split at h
          · rename_i hk
            have hks := hk
            split at h
            · rename_i q row hrow
              simp only [Option.some.injEq, Prod.mk.injEq] at h
              obtain ⟨rfl, rfl⟩ := h
              obtain ⟨pc2, xs, hmem, _, hvals, hok⟩ := rowI_ok (Φ := Φ) (ρ := ρ) (holds_nil Φ ρ) hrow hzc
              simp at hmem
              obtain ⟨rfl, rfl⟩ := hmem
              have hlen : ((mkRep n xs).ev Φ ρ).length = (n.ev Φ ρ).toNat := by simp
              have hev : (mkLen 60 (mkRep n xs)).ev Φ ρ = n.ev Φ ρ := by rw [ev_mkLen, hlen]; omega
              have hokA : ∀ r ∈ (mkRep n xs).ev Φ ρ, okRow ks r := by
                intro r hr
                simp at hr
                rw [hr.2]; exact hok
              have hR : RepVec ks e ((mkRep n xs).ev Φ ρ) (w.alloc (.cells (madeCells zv.cells ((n.ev Φ ρ).toNat * info.size)) e)) ⟨w.heap.size, 0, ks.length, (n.ev Φ ρ).toNat, false, [w.heap.size]⟩ := by
                refine ⟨rfl, by omega, hokA, by rw [hlen]; exact Nat.le_refl _, hmx, ?_⟩
                rw [if_neg (by simp)]
                refine ⟨rfl, _, heap_alloc_new w _, ?_, fun i u hu => ?_⟩
                · simp [size_madeCells, hks]
                · obtain ⟨r, hr, hru⟩ := get_flat hokA (by omega) hu
                  have hilt := (List.getElem?_eq_some_iff.1 hu).1
                  rw [flat_len hokA, hlen] at hilt
                  rw [ev_mkRep, List.getElem?_replicate] at hr
                  split at hr
                  case isFalse => cases hr
                  simp only [Option.some.injEq] at hr
                  subst hr
                  rw [hvals] at hru
                  simp only [Nat.zero_add, madeCells]
                  rw [Array.getElem?_map, Array.getElem?_range]
                  simp only [hilt, ← hks, if_true, Option.map_some]
                  rw [hz1, ← hks]
                  have hml : i % ks.length < zv.cells.size := by rw [hz1, ← hks]; exact Nat.mod_lt _ (by omega)
                  have : zv.cells[i % ks.length]? = some u := by simpa using hru
                  rw [Array.getElem?_eq_getElem hml] at this
                  simp only [Option.some.injEq] at this
                  simp [hml, this]
              refine ⟨[⟨w.heap.size, 0, ks.length, (n.ev Φ ρ).toNat, false, [w.heap.size]⟩], _, _, hrun, ?_, ?_⟩
              · have hl : (μ ++ [(⟨w.heap.size, 0, ks.length, (n.ev Φ ρ).toNat, false, [w.heap.size]⟩ : Loc)])[s.m.o.length]? = some ⟨w.heap.size, 0, ks.length, (n.ev Φ ρ).toNat, false, [w.heap.size]⟩ := by
                  rw [← hM.len, List.getElem?_append_right (Nat.le_refl _)]; simp
                have := den_vs_mk (Φ := Φ) (ρ := ρ) (lo := .c 0) (len := mkLen 60 (mkRep n xs)) (cap := none) hl (by simp) (by rw [hev]; exact hn0) (by rw [hev]; simp only [vcap, ev_c]; omega) (by simp only [vcap, ev_c]; omega) (by simp)
                simp only [den]
                rw [this, hev]
                simp only [vcap, ev_c, Int.sub_zero, Int.toNat_natCast, Int.toNat_zero, vsVal, Bool.false_eq_true, if_false, Nat.zero_mul, Nat.add_zero, ite_self]
              · refine hM.push (fun b hb => heap_alloc_lt w _ hb) (by rw [World.size_alloc]; omega) ⟨rfl, rfl, rfl⟩ (by simp) hR
            · cases h
          · cases h
        · split at h
          · rename_i k
            simp only [Option.some.injEq, Prod.mk.injEq] at h
            obtain ⟨rfl, rfl⟩ := h
            have hzz := zeros_ok (Φ := Φ) (ρ := ρ) (μ := μ) hzc (by omega) (k * info.size)
            refine ⟨[⟨w.heap.size, 0, 0, 0, false, [w.heap.size]⟩], _, _, hrun, ?_, ?_⟩
            · have hl : (μ ++ [(⟨w.heap.size, 0, 0, 0, false, [w.heap.size]⟩ : Loc)])[s.m.o.length]? = some ⟨w.heap.size, 0, 0, 0, false, [w.heap.size]⟩ := by
                rw [← hM.len, List.getElem?_append_right (Nat.le_refl _)]; simp
              simp [den, denC, denPt, hl]
            · have := MRel.newCells hM (zeros z.cells (k * info.size)) _ e hzz
              rw [Array.toArray_toList] at this; exact this
          · cases h
      · cases h
    · cases h
  · cases h

theorem good_good {o : Oper} {outs : List (List SB × Option (AV × Mem))} {run : Result Value} (h : Good Φ ρ μ B w outs run) (hm : mutOp o.op = true)
    (hr : ∀ x w', run = .ok x w' → (execOp a.eval o).run P w = .ok (.value x) w') : StepGood Φ ρ μ P B w a o outs := by
  rcases h with h | ⟨pc', v, m', ν, w', x, hmem, hp, hrun, hd, hM⟩
  · exact .inl h
  · exact .inr ⟨pc', v, m', ν, w', x, _, hmem, hp, hr x w' hrun, .inl rfl, hd, hM, fun e => by rw [hm] at e; cases e⟩

theorem step_ok (hT : TRel Φ ρ μ s.n s.t a) (hM : MRel Φ ρ μ B s.m w) (hp : holds Φ ρ pc) (o : Oper) {outs : List (List SB × Option (AV × Mem))} (h : stepOp P s pc o.op = some outs) :
    StepGood Φ ρ μ P B w a o outs := by
  obtain ⟨dst, op, ty, pos, after, guard⟩ := o
  simp only at h
  unfold stepOp at h
  split at h
  case h_1 x =>
    obtain ⟨v, hv, rfl⟩ := one_inv h
    exact good_one hM hp (x := a.eval x) (by simp [execOp]) (opnd_ok hT hv)
  case h_2 x =>
    obtain ⟨v, hv, rfl⟩ := one_inv h
    exact good_one hM hp (x := a.eval x) (by simp [execOp]) (opnd_ok hT hv)
  case h_3 c x y =>
    split at h
    · rename_i b hb
      have hcb := opnd_ok hT hb
      simp only [den, denC, Option.some.injEq] at hcb
      have hrun : ∀ t, b.ev Φ ρ = t → (execOp a.eval ⟨dst, .pick c x y, ty, pos, after, guard⟩).run P w = .ok (.value (if t then a.eval x else a.eval y)) w := by
        intro t ht
        simp only [execOp, ← hcb, ht, asBool, Sem.run_bind, Sem.run_pure, Result.andThen_ok]
      split at h
      · rename_i hk
        obtain ⟨v, hv, rfl⟩ := one_inv h
        exact good_one hM hp (hrun true (known_ok Φ ρ hp _ _ hk)) (opnd_ok hT hv)
      · rename_i hk
        obtain ⟨v, hv, rfl⟩ := one_inv h
        exact good_one hM hp (hrun false (known_ok Φ ρ hp _ _ hk)) (opnd_ok hT hv)
      · split at h
        · rename_i u v hu hv
          simp only [Option.some.injEq] at h
          subst h
          obtain ⟨c, pc', h1, h2, h3⟩ := ways_ok Φ ρ b hp
          have h1 : (pc', some ((if c then u else v), s.m)) ∈ (ways pc b).map fun y => (y.2, some ((if y.1 then u else v), s.m)) := List.mem_map.2 ⟨_, h1, rfl⟩
          cases c with
          | true => exact .inr ⟨_, u, s.m, [], w, _, _, h1, h3, hrun true h2, .inl rfl, by simpa using opnd_ok hT hu, by simpa using hM, fun _ => ⟨rfl, rfl⟩⟩
          | false => exact .inr ⟨_, v, s.m, [], w, _, _, h1, h3, hrun false h2, .inl rfl, by simpa using opnd_ok hT hv, by simpa using hM, fun _ => ⟨rfl, rfl⟩⟩
        · cases h
    · cases h
  case h_4 t =>
    split at h
    · rename_i z hz
      simp only [Option.some.injEq] at h
      subst h
      obtain ⟨v, hv, hrun, hnt⟩ := zero_ok (Φ := Φ) (ρ := ρ) (μ := μ) hz w
      obtain ⟨ν, w', x, hn, hd, hM'⟩ := new_ok (P := P) (t := t) hM hv hnt
      refine .inr ⟨pc, _, _, ν, w', _, _, List.mem_singleton.2 rfl, hp, ?_, .inl rfl, hd, hM', fun h => by simp [mutOp] at h⟩
      simp [execOp, Instr.alloc, Sem.run_bind, hrun, hn]
    · cases h
  case h_5 t x =>
    split at h
    · cases h
    · rename_i v hnt hv
      simp only [Option.some.injEq] at h
      subst h
      obtain ⟨ν, w', x', hn, hd, hM'⟩ := new_ok (P := P) (t := t) hM (opnd_ok hT hv) (fun vs e => hnt vs (e ▸ rfl))
      refine .inr ⟨pc, _, _, ν, w', _, _, List.mem_singleton.2 rfl, hp, ?_, .inl rfl, hd, hM', fun h => by simp [mutOp] at h⟩
      simp [execOp, Instr.box, Sem.run_bind, hn]
    · cases h
  case h_6 t ps =>
    obtain ⟨v, hv, rfl⟩ := one_inv h
    obtain ⟨u, hu, hr⟩ := build_ok (w := w) hT hv
    refine good_one hM hp (x := u) ?_ hu
    simp only [execOp, Sem.run_bind, hr, Result.andThen_ok, Sem.run_pure]
  case h_7 t x =>
    split at h
    · rename_i av hav
      simp only [Option.map_eq_some_iff] at h
      obtain ⟨⟨v, fs⟩, hv, rfl⟩ := h
      obtain ⟨hf, u, hu, hr⟩ := load_ok hM hp hv (opnd_ok hT hav)
      exact good_one hM (holds_app Φ ρ hf hp) (x := u) (by simp [execOp, Sem.run_bind, hr]) hu
    · cases h
  case h_8 t x y =>
    split at h
    · rename_i ax ay hx hy
      simp only [Option.map_eq_some_iff] at h
      obtain ⟨ws, hm, rfl⟩ := h
      obtain ⟨pc', m, w', hmem, hp', hr, hM'⟩ := storeOp_ok hM hp hm (opnd_ok hT hx) (opnd_ok hT hy)
      refine .inr ⟨pc', undefV, m, [], w', undef, .skip, List.mem_map.2 ⟨(pc', m), hmem, rfl⟩, hp', by simp [execOp, Sem.run_bind, hr], .inr ⟨rfl, rfl⟩, by simp [undefV, den, denT, undef], by simpa using hM', fun h => by simp [mutOp] at h⟩
    · cases h
  case h_9 x =>
    split at h
    · rename_i p hp'
      obtain ⟨v, hv, rfl⟩ := one_inv h
      simp at hv; subst hv
      obtain ⟨addr, haddr, he⟩ := den_ptr (opnd_ok hT hp')
      refine good_one hM hp (x := a.eval x) ?_ (opnd_ok hT hp')
      simp only [execOp, he]; rfl
    · cases h
  case h_10 op t x y t' =>
    split at h
    · rename_i ax ay hx hy
      obtain ⟨v, hv, rfl⟩ := one_inv h
      obtain ⟨u, hu, hg, hr⟩ := binop_ok (w := w) hp x y hv (opnd_ok hT hx) (opnd_ok hT hy)
      exact good_one hM hp (x := u) (by simp only [execOp, Sem.run_bind, hg, hr, Result.andThen_ok, Sem.run_pure]) hu
    · cases h
  case h_11 op t x =>
    split at h
    · rename_i ax hx
      obtain ⟨v, hv, rfl⟩ := one_inv h
      obtain ⟨u, hu, hr⟩ := unop_ok (P := P) (w := w) hp hv (opnd_ok hT hx)
      exact good_one hM hp (x := u) (by simp only [execOp, Sem.run_bind, hr, Result.andThen_ok, Sem.run_pure]) hu
    · cases h
  case h_12 t t' x =>
    split at h
    · rename_i ax hx
      obtain ⟨v, hv, rfl⟩ := one_inv h
      obtain ⟨u, hu, hr⟩ := conv_ok (w := w) hp hv (opnd_ok hT hx)
      exact good_one hM hp (x := u) (by simp only [execOp, Sem.run_bind, hr, Result.andThen_ok, Sem.run_pure]) hu
    · cases h
  case h_13 t x i =>
    split at h
    · rename_i ax hx
      obtain ⟨v, hv, rfl⟩ := one_inv h
      obtain ⟨u, hu, hr⟩ := fieldAddr_ok (w := w) hv (opnd_ok hT hx)
      exact good_one hM hp (x := u) (by simp only [execOp, Sem.run_bind, hr, Result.andThen_ok, Sem.run_pure]) hu
    · cases h
  case h_14 t x i =>
    split at h
    · rename_i ax hx
      obtain ⟨v, hv, rfl⟩ := one_inv h
      obtain ⟨u, hu, hr⟩ := field_ok (P := P) (w := w) hv (opnd_ok hT hx)
      exact good_one hM hp (x := u) (by simp only [execOp, Sem.run_bind, hr, Result.andThen_ok, Sem.run_pure]) hu
    · cases h
  case h_15 t x i =>
    split at h
    · rename_i ax ai hx hi
      rcases index_ok hM hp h (opnd_ok hT hx) (opnd_ok hT hi) with h1 | ⟨pc', v, u, hmem, hp', hv, hr⟩
      · exact .inl h1
      · exact .inr ⟨pc', v, s.m, [], w, u, _, hmem, hp', by simp only [execOp, Sem.run_bind, hr, Result.andThen_ok, Sem.run_pure], .inl rfl, by simpa using hv, by simpa using hM, fun _ => ⟨rfl, rfl⟩⟩
    · cases h
  case h_16 x i =>
    split at h
    · rename_i vs hvs
      have hd := opnd_ok hT hvs
      simp only [den, Option.map_eq_some_iff] at hd
      obtain ⟨us, hus, he⟩ := hd
      split at h
      · rename_i c hc
        obtain ⟨v, hv, rfl⟩ := one_inv h
        simp at hv; subst hv
        obtain ⟨u, hu, hcu⟩ := (denT_get hus i).1 c hc
        exact good_one hM hp (x := u) (by simp [execOp, ← he, Instr.extract, hu, Sem.run_bind]) hcu
      · rename_i cs hc
        obtain ⟨v, hv, rfl⟩ := one_inv h
        simp at hv; subst hv
        obtain ⟨u, hu, hcu⟩ := (denT_get hus i).2 cs hc
        exact good_one hM hp (x := u) (by simp [execOp, ← he, Instr.extract, hu, Sem.run_bind]) hcu
      · cases h
    · cases h
  case h_17 f first caps =>
    split at h
    · cases h
    rename_i hb
    split at h
    · rename_i hf
      obtain ⟨v, hv, rfl⟩ := one_inv h
      simp only [Option.map_eq_some_iff] at hv
      obtain ⟨ps, hps, rfl⟩ := hv
      have h1 := pts_ok hT hps
      have h2 : first = #[] := by simpa using hf
      subst h2
      refine good_one hM hp (x := .func (.func f) #[] (caps.map a.eval)) ?_ ?_
      · simp [execOp, Instr.makeFunc]
      · simp only [den, denC, h1, Option.map_some, fnVal]
        rw [if_neg hb]
        congr 2
        rw [← Array.toList_map]
    · split at h
      · rename_i hc
        obtain ⟨v, hv, rfl⟩ := one_inv h
        simp only [Option.map_eq_some_iff] at hv
        obtain ⟨ps, hps, rfl⟩ := hv
        have h1 := pts_ok hT hps
        have h2 : caps = #[] := by simpa using hc
        subst h2
        refine good_one hM hp (x := .func (.func f) (first.map a.eval) #[]) ?_ ?_
        · simp [execOp, Instr.makeFunc]
        · simp only [den, denC, h1, Option.map_some, fnVal]
          rw [if_pos (Nat.ble_eq ▸ Nat.le_add_left bnd f), Nat.add_sub_cancel]
          congr 2
          rw [← Array.toList_map]
      · cases h
  case h_18 t x y =>
    split at h
    · rename_i n c hn hc
      simp only [Option.map_eq_some_iff] at h
      obtain ⟨⟨v, m⟩, hv, rfl⟩ := h
      obtain ⟨ν, w', u, hr, hd, hM'⟩ := makeSlice_ok hM hp hv (opnd_ok hT hn) (opnd_ok hT hc)
      refine .inr ⟨pc, _, _, ν, w', u, _, List.mem_singleton.2 rfl, hp, ?_, .inl rfl, hd, hM', fun h => by simp [mutOp] at h⟩
      simp only [execOp, Sem.run_bind, hr, Result.andThen_ok, Sem.run_pure]
    · cases h
  case h_19 t x lo hi mx =>
    split at h
    · rename_i ax l' h' m' hx hl hh hm
      obtain ⟨kl, e1⟩ := optI_ok hT hl
      obtain ⟨kh, e2⟩ := optI_ok hT hh
      obtain ⟨km, e3⟩ := optI_ok hT hm
      rcases slice_ok (kl := kl.getD .i64) (kh := kh.getD .i64) (km := km.getD .i64) hM hp h (opnd_ok hT hx) with h1 | ⟨pc', v, u, hmem, hp', hv, hr⟩
      · exact .inl h1
      · refine .inr ⟨pc', v, s.m, [], w, u, _, hmem, hp', ?_, .inl rfl, by simpa using hv, by simpa using hM, fun _ => ⟨rfl, rfl⟩⟩
        rw [← e1, ← e2, ← e3] at hr
        simp only [execOp, Sem.run_bind, hr, Result.andThen_ok, Sem.run_pure]
    · cases h
  case h_20 args argTypes =>
    split at h
    · rename_i x t hx ht
      split at h
      · rename_i ax hax
        have e1 : args = #[x] := Array.ext' hx
        have e2 : argTypes = #[t] := Array.ext' ht
        subst e1; subst e2
        split at h
        · rename_i v0 hv0
          obtain ⟨v, hv, rfl⟩ := one_inv h
          cases hv
          obtain ⟨u, hu, hr⟩ := mapLen_ok (ty := ty) hM hv0 (opnd_ok hT hax)
          refine good_one hM hp (x := u) ?_ hu
          simp [execOp, resolve, invoke, builtin, Sem.run_bind, hr]
        · obtain ⟨v, hv, rfl⟩ := one_inv h
          obtain ⟨u, hu, hr⟩ := len_ok (w := w) ty hv (opnd_ok hT hax)
          refine good_one hM hp (x := u) ?_ hu
          simp [execOp, resolve, invoke, builtin, Sem.run_bind, hr]
      · cases h
    · cases h
  case h_21 args argTypes =>
    split at h
    · rename_i x y t t' hx ht
      split at h
      · rename_i ax ay hax hay
        split at h
        · rename_i htt
          subst htt
          have e1 : args = #[x, y] := Array.ext' hx
          have e2 : argTypes = #[t, t] := Array.ext' ht
          subst e1; subst e2
          refine good_good (append_ok (ty := ty) hM hp h (opnd_ok hT hax) (opnd_ok hT hay)) rfl fun u w' hr => ?_
          simp [execOp, resolve, invoke, builtin, Sem.run_bind, hr]
        · cases h
      · cases h
    · cases h
  case h_22 args argTypes =>
    split at h
    · rename_i x y hx
      split at h
      · rename_i ax ay hax hay
        obtain ⟨v, hv, rfl⟩ := one_inv h
        obtain ⟨u, hu, hr⟩ := minmax_ok (P := P) (w := w) (ty := ty) (argTypes := argTypes) hv (opnd_ok hT hax) (opnd_ok hT hay)
        have e1 : args = #[x, y] := Array.ext' hx
        subst e1
        refine good_one hM hp (x := u) ?_ hu
        rw [if_pos rfl] at hr
        simp [execOp, resolve, invoke, builtin, Sem.run_bind, hr]
      · cases h
    · cases h
  case h_23 args argTypes =>
    split at h
    · rename_i x y hx
      split at h
      · rename_i ax ay hax hay
        obtain ⟨v, hv, rfl⟩ := one_inv h
        obtain ⟨u, hu, hr⟩ := minmax_ok (P := P) (w := w) (ty := ty) (argTypes := argTypes) hv (opnd_ok hT hax) (opnd_ok hT hay)
        have e1 : args = #[x, y] := Array.ext' hx
        subst e1
        refine good_one hM hp (x := u) ?_ hu
        rw [if_neg (by simp)] at hr
        simp [execOp, resolve, invoke, builtin, Sem.run_bind, hr]
      · cases h
    · cases h
  case h_24 t len ps =>
    simp only [Option.map_eq_some_iff] at h
    obtain ⟨vm, hv, rfl⟩ := h
    obtain ⟨ν, w', x, hr, hd, hM'⟩ := buildSlice_ok hT hM hv
    refine .inr ⟨pc, _, _, ν, w', x, _, List.mem_singleton.2 rfl, hp, ?_, .inl rfl, hd, hM', fun h => by simp [mutOp] at h⟩
    simp only [execOp, Sem.run_bind, hr, Result.andThen_ok, Sem.run_pure]
  case h_25 t =>
    simp only [Option.map_eq_some_iff] at h
    obtain ⟨⟨v, m⟩, hv, rfl⟩ := h
    obtain ⟨ν, w', x, hr, hd, hM'⟩ := makeMap_ok (P := P) hM hv
    refine .inr ⟨pc, _, _, ν, w', x, _, List.mem_singleton.2 rfl, hp, ?_, .inl rfl, hd, hM', fun h => by simp [mutOp] at h⟩
    simp only [execOp, Option.map_none, Sem.run_bind, hr, Result.andThen_ok, Sem.run_pure]
  case h_26 t x k ok =>
    split at h
    · rename_i ax ak hax hak
      simp only [Option.map_eq_some_iff] at h
      obtain ⟨⟨v, fs⟩, hv, rfl⟩ := h
      obtain ⟨hf, u, hu, hr⟩ := lookup_ok (P := P) hM hp hv (opnd_ok hT hax) (opnd_ok hT hak)
      refine .inr ⟨_, v, s.m, [], w, u, _, List.mem_singleton.2 rfl, holds_app Φ ρ hf hp, ?_, .inl rfl, by simpa using hu, by simpa using hM, fun _ => ⟨rfl, rfl⟩⟩
      simp only [execOp, Sem.run_bind, hr, Result.andThen_ok, Sem.run_pure]
    · cases h
  case h_27 t x k v =>
    split at h
    · rename_i ax ak av hax hak hav
      simp only [Option.map_eq_some_iff] at h
      obtain ⟨ws, hws, rfl⟩ := h
      obtain ⟨pc', m, w', hmem, hp', hr, hM'⟩ := update_ok (P := P) hM hp hws (opnd_ok hT hax) (opnd_ok hT hak) (opnd_ok hT hav)
      refine .inr ⟨pc', undefV, m, [], w', undef, _, List.mem_map.2 ⟨_, hmem, rfl⟩, hp', ?_, .inr ⟨rfl, rfl⟩, by simp [undefV, den, denT, undef], by simpa using hM', fun h => by simp [mutOp] at h⟩
      simp only [execOp, Sem.run_bind, hr, Result.andThen_ok, Sem.run_pure]
    · cases h
  case h_28 t x =>
    split at h
    · rename_i ax hax
      simp only [Option.map_eq_some_iff] at h
      obtain ⟨⟨v, m⟩, hv, rfl⟩ := h
      obtain ⟨ν, w', u, hr, hd, hM'⟩ := range_ok (P := P) hM hv (opnd_ok hT hax)
      refine .inr ⟨pc, _, _, ν, w', u, _, List.mem_singleton.2 rfl, hp, ?_, .inl rfl, hd, hM', fun h => by simp [mutOp] at h⟩
      simp only [execOp, Sem.run_bind, hr, Result.andThen_ok, Sem.run_pure]
    · cases h
  case h_29 args argTypes =>
    split at h
    · rename_i x k t ts hx ht
      split at h
      · rename_i ax ak hax hak
        simp only [Option.map_eq_some_iff] at h
        obtain ⟨m, hm, rfl⟩ := h
        have h0 : argTypes[0]? = some t := by rw [← Array.getElem?_toList, ht]; rfl
        obtain ⟨w', hr, hM'⟩ := delete_ok (P := P) (ty := ty) hM h0 hm (opnd_ok hT hax) (opnd_ok hT hak)
        have e1 : args = #[x, k] := Array.ext' hx
        subst e1
        refine .inr ⟨pc, _, _, [], w', .tuple #[], _, List.mem_singleton.2 rfl, hp, ?_, .inl rfl, by simp [den, denT], by simpa using hM', fun h => by simp [mutOp] at h⟩
        simp [execOp, resolve, invoke, builtin, Sem.run_bind, hr]
      · cases h
    · cases h
  case h_30 x =>
    split at h
    · rename_i ax hax
      simp only [one, Option.map_eq_some_iff] at h
      obtain ⟨v, hv, rfl⟩ := h
      obtain ⟨u, hu, hr⟩ := entry_ok (P := P) hM hv (opnd_ok hT hax)
      refine .inr ⟨pc, v, s.m, [], w, u, _, List.mem_singleton.2 rfl, hp, ?_, .inl rfl, by simpa using hu, by simpa using hM, fun _ => ⟨rfl, rfl⟩⟩
      simp only [execOp, Sem.run_bind, hr, Result.andThen_ok, Sem.run_pure]
    · cases h
  case h_31 args argTypes =>
    split at h
    · rename_i x y t t' hx ht
      split at h
      · rename_i ax ay hax hay
        split at h
        · rename_i htt
          subst htt
          have e1 : args = #[x, y] := Array.ext' hx
          have e2 : argTypes = #[t, t] := Array.ext' ht
          subst e1; subst e2
          refine good_good (copy_ok (ty := ty) hM hp h (opnd_ok hT hax) (opnd_ok hT hay)) rfl fun u w' hr => ?_
          simp [execOp, resolve, invoke, builtin, Sem.run_bind, hr]
        · cases h
      · cases h
    · cases h
  case h_32 => cases h
end
end Go.SF
