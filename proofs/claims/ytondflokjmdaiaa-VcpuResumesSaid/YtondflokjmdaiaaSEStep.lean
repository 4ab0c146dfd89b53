/- One operation that calls nothing. -/
import Derived.Test.YtondflokjmdaiaaSEOps4
namespace Go.SE
set_option linter.unusedVariables false
set_option linter.unusedSimpArgs false

section
variable {D : Type} {Φ : Sig D} {ρ : Env D} {μ : List Loc} {P : Program} {w0 w : World} {s : St} {a : Act} {pc : List SB}

theorem index_ok (hM : MRel Φ ρ μ w0 s.m w) (hp : holds Φ ρ pc) {t : TypeId} {x i : AV} {vx vi : Value} {outs : List (List SB × Option (AV × Mem))} (h : indexAddr P s pc t x i = some outs)
    (hx : den Φ ρ μ x = some vx) (hi : den Φ ρ μ i = some vi) :
    (∃ pc', (pc', none) ∈ outs ∧ holds Φ ρ pc') ∨ ∃ pc' v u, (pc', some (v, s.m)) ∈ outs ∧ holds Φ ρ pc' ∧ den Φ ρ μ v = some u ∧ (Instr.indexAt t vx vi).run P w = .ok u w := by
  unfold indexAddr at h
  split at h
  · rename_i e id r len cap k n hu
    split at h
    · rename_i A ks sz ho hsz
      split at h
      · rename_i hks
        simp only [Option.some.injEq] at h
        subst h
        obtain ⟨b, pc', hmem, hev, hpc'⟩ := ways_ok Φ ρ (mkAnd (mkLe (.c 0) n) (mkLt n len)) hp
        cases b with
        | false => exact .inl ⟨pc', List.mem_map.2 ⟨(false, pc'), hmem, rfl⟩, hpc'⟩
        | true =>
          right
          simp at hev
          refine ⟨pc', .cv (.p (some ⟨id, mkAdd r n, 0⟩)), ?_⟩
          simp only [den, denC] at hx
          split at hx
          · rename_i hc
            simp only [Option.map_eq_some_iff] at hx
            obtain ⟨addr, haddr, rfl⟩ := hx
            simp [den, denC] at hi
            subst hi
            obtain ⟨l, hl⟩ := obj_loc hM ho
            obtain ⟨hst, _, _⟩ := hM.obj id _ l ho hl
            refine ⟨.pointer (some (addr.add ((n.ev Φ ρ).toNat * sz))), List.mem_map.2 ⟨(true, pc'), hmem, rfl⟩, hpc', ?_, ?_⟩
            rotate_left
            · have he : P.underlying t = some (.slice (P.elem t)) := by simp [Program.elem, hu]
              have hee : P.elem t = e := by simp [Program.elem, hu]
              rw [run_indexAt_slice w t addr _ _ k _ he, hee, if_pos (by omega), run_sizeOf' hsz]
              rfl
            · unfold denPt at haddr
              rw [hl] at haddr
              simp only at haddr
              split at haddr
              · rename_i h0
                simp at haddr; subst haddr
                simp only [if_true, den, denC, denPt, hl, ev_mkAdd]
                rw [if_pos (by omega), add_eq _ rfl]
                simp only [Option.map_some, Option.some.injEq, Value.pointer.injEq, Addr.mk.injEq, true_and, and_true]
                rw [Int.toNat_add h0 hev.1, Nat.add_mul, hst, hks]
                omega
              · cases haddr
          · cases hx
      · cases h
    · cases h
  · rename_i len e p k n hu
    split at h
    · rename_i sz hsz
      split at h
      · rename_i hb
        simp only [Option.some.injEq] at h
        subst h
        right
        obtain ⟨addr, haddr, rfl⟩ := den_ptr hx
        simp [den, denC] at hi
        subst hi
        refine ⟨pc, _, .pointer (some (addr.add (n.toNat * sz))), List.mem_singleton.2 rfl, hp, ?_, ?_⟩
        · unfold denPt at haddr
          simp only [den, denC, denPt]
          cases hl : μ[p.id]? with
          | none => rw [hl] at haddr; cases haddr
          | some l =>
            rw [hl] at haddr
            simp only at haddr ⊢
            split at haddr
            · rename_i h0
              simp at haddr; subst haddr
              rw [if_pos h0, add_eq _ rfl]
              simp [Nat.add_assoc]
            · cases haddr
        · have he : P.underlying t = some (.array (P.arrayLen t) (P.elem t)) := by simp [Program.elem, Program.arrayLen, hu]
          have hee : P.elem t = e := by simp [Program.elem, hu]
          have hl : P.arrayLen t = len := by simp [Program.arrayLen, hu]
          rw [run_indexAt_array w t addr k n he, hee, hl, if_pos hb, run_sizeOf' hsz]
          rfl
      · cases h
    · cases h
  · cases h

theorem denT_get : ∀ {vs : List (CV ⊕ List CV)} {us : List Value}, denT Φ ρ μ vs = some us → ∀ (i : Nat),
    (∀ (c : CV), vs[i]? = some (Sum.inl c) → ∃ u, us[i]? = some u ∧ denC Φ ρ μ c = some u) ∧ (∀ (cs : List CV), vs[i]? = some (Sum.inr cs) → ∃ u, us[i]? = some u ∧ den Φ ρ μ (.agg cs) = some u)
  | [], us, h, i => by simp
  | .inl c :: vs, us, h, i => by
    simp only [denT] at h
    cases h1 : denC Φ ρ μ c with
    | none => rw [h1] at h; cases h
    | some u =>
      cases h2 : denT Φ ρ μ vs with
      | none => rw [h1, h2] at h; cases h
      | some us' =>
        rw [h1, h2] at h; simp at h; subst h
        cases i with
        | zero => simp; exact h1
        | succ i => simpa using denT_get h2 i
  | .inr cs :: vs, us, h, i => by
    simp only [denT] at h
    cases h1 : denL Φ ρ μ cs with
    | none => rw [h1] at h; cases h
    | some u =>
      cases h2 : denT Φ ρ μ vs with
      | none => rw [h1, h2] at h; cases h
      | some us' =>
        rw [h1, h2] at h; simp at h; subst h
        cases i with
        | zero => simp [den, h1]
        | succ i => simpa using denT_get h2 i

theorem step_ok (hT : TRel Φ ρ μ s.n s.t a) (hM : MRel Φ ρ μ w0 s.m w) (hp : holds Φ ρ pc) (o : Oper) {outs : List (List SB × Option (AV × Mem))} (h : stepOp P s pc o.op = some outs) :
    StepGood Φ ρ μ P w0 w a o outs := by
  obtain ⟨dst, op, ty, pos, after, guard⟩ := o
  simp only at h
  unfold stepOp at h
  split at h
  case h_1 x =>
    obtain ⟨v, hv, rfl⟩ := one_inv h
    exact good_one hM hp (x := a.eval x) (by simp [execOp]) (opnd_ok hT hv)
  case h_2 x =>
    obtain ⟨v, hv, rfl⟩ := one_inv h
    exact good_one hM hp (x := a.eval x) (by simp [execOp]) (opnd_ok hT hv)
  case h_3 c x y =>
    split at h
    · rename_i b hb
      have hcb := opnd_ok hT hb
      simp only [den, denC, Option.some.injEq] at hcb
      have hrun : ∀ t, b.ev Φ ρ = t → (execOp a.eval ⟨dst, .pick c x y, ty, pos, after, guard⟩).run P w = .ok (.value (if t then a.eval x else a.eval y)) w := by
        intro t ht
        simp only [execOp, ← hcb, ht, asBool, Sem.run_bind, Sem.run_pure, Result.andThen_ok]
      split at h
      · rename_i hk
        obtain ⟨v, hv, rfl⟩ := one_inv h
        exact good_one hM hp (hrun true (known_ok Φ ρ hp _ _ hk)) (opnd_ok hT hv)
      · rename_i hk
        obtain ⟨v, hv, rfl⟩ := one_inv h
        exact good_one hM hp (hrun false (known_ok Φ ρ hp _ _ hk)) (opnd_ok hT hv)
      · split at h
        · rename_i u v hu hv
          simp only [Option.some.injEq] at h
          subst h
          cases hbv : b.ev Φ ρ with
          | true => exact .inr ⟨_, u, s.m, [], w, _, _, List.mem_cons_self .., addFact_ok Φ ρ hp hbv, hrun true hbv, .inl rfl, by simpa using opnd_ok hT hu, by simpa using hM, fun _ => ⟨rfl, rfl⟩, by simp⟩
          | false => exact .inr ⟨_, v, s.m, [], w, _, _, List.mem_cons_of_mem _ (List.mem_cons_self ..), addFact_ok Φ ρ hp (by simp [hbv]), hrun false hbv, .inl rfl, by simpa using opnd_ok hT hv, by simpa using hM, fun _ => ⟨rfl, rfl⟩, by simp⟩
        · cases h
    · cases h
  case h_4 t =>
    split at h
    · rename_i z hz
      simp only [Option.some.injEq] at h
      subst h
      obtain ⟨v, hv, hrun, hnt⟩ := zero_ok (Φ := Φ) (ρ := ρ) (μ := μ) hz w
      obtain ⟨ν, w', x, hn, hd, hM', hν⟩ := new_ok (P := P) (t := t) hM hv hnt
      refine .inr ⟨pc, _, _, ν, w', _, _, List.mem_singleton.2 rfl, hp, ?_, .inl rfl, hd, hM', fun h => by simp [mutOp] at h, hν⟩
      simp [execOp, Instr.alloc, Sem.run_bind, hrun, hn]
    · cases h
  case h_5 t x =>
    split at h
    · cases h
    · rename_i v hnt hv
      simp only [Option.some.injEq] at h
      subst h
      obtain ⟨ν, w', x', hn, hd, hM', hν⟩ := new_ok (P := P) (t := t) hM (opnd_ok hT hv) (fun vs e => hnt vs (e ▸ rfl))
      refine .inr ⟨pc, _, _, ν, w', _, _, List.mem_singleton.2 rfl, hp, ?_, .inl rfl, hd, hM', fun h => by simp [mutOp] at h, hν⟩
      simp [execOp, Instr.box, Sem.run_bind, hn]
    · cases h
  case h_6 t ps =>
    obtain ⟨v, hv, rfl⟩ := one_inv h
    obtain ⟨u, hu, hr⟩ := build_ok (w := w) hT hv
    refine good_one hM hp (x := u) ?_ hu
    simp only [execOp, Sem.run_bind, hr, Result.andThen_ok, Sem.run_pure]
  case h_7 t x =>
    split at h
    · rename_i av hav
      obtain ⟨v, hv, rfl⟩ := one_inv h
      obtain ⟨u, hu, hr⟩ := load_ok hM hp hv (opnd_ok hT hav)
      exact good_one hM hp (x := u) (by simp [execOp, Sem.run_bind, hr]) hu
    · cases h
  case h_8 t x y =>
    split at h
    · rename_i ax ay hx hy
      simp only [Option.map_eq_some_iff] at h
      obtain ⟨m, hm, rfl⟩ := h
      obtain ⟨w', hr, hM'⟩ := store_ok hM hm (opnd_ok hT hx) (opnd_ok hT hy)
      refine .inr ⟨pc, undefV, m, [], w', undef, .skip, List.mem_singleton.2 rfl, hp, by simp [execOp, Sem.run_bind, hr], .inr ⟨rfl, rfl⟩, by simp [undefV, den, denT, undef], by simpa using hM', fun h => by simp [mutOp] at h, by simp⟩
    · cases h
  case h_9 x =>
    split at h
    · rename_i p hp'
      obtain ⟨v, hv, rfl⟩ := one_inv h
      simp at hv; subst hv
      obtain ⟨addr, haddr, he⟩ := den_ptr (opnd_ok hT hp')
      refine good_one hM hp (x := a.eval x) ?_ (opnd_ok hT hp')
      simp only [execOp, he]; rfl
    · cases h
  case h_10 op t x y t' =>
    split at h
    · rename_i ax ay hx hy
      obtain ⟨v, hv, rfl⟩ := one_inv h
      obtain ⟨u, hu, hg, hr⟩ := binop_ok (w := w) x y hv (opnd_ok hT hx) (opnd_ok hT hy)
      exact good_one hM hp (x := u) (by simp only [execOp, Sem.run_bind, hg, hr, Result.andThen_ok, Sem.run_pure]) hu
    · cases h
  case h_11 op t x =>
    split at h
    · rename_i ax hx
      obtain ⟨v, hv, rfl⟩ := one_inv h
      obtain ⟨u, hu, hr⟩ := unop_ok (P := P) (w := w) hv (opnd_ok hT hx)
      exact good_one hM hp (x := u) (by simp only [execOp, Sem.run_bind, hr, Result.andThen_ok, Sem.run_pure]) hu
    · cases h
  case h_12 t t' x =>
    split at h
    · rename_i ax hx
      obtain ⟨v, hv, rfl⟩ := one_inv h
      obtain ⟨u, hu, hr⟩ := conv_ok (w := w) hv (opnd_ok hT hx)
      exact good_one hM hp (x := u) (by simp only [execOp, Sem.run_bind, hr, Result.andThen_ok, Sem.run_pure]) hu
    · cases h
  case h_13 t x i =>
    split at h
    · rename_i ax hx
      obtain ⟨v, hv, rfl⟩ := one_inv h
      obtain ⟨u, hu, hr⟩ := fieldAddr_ok (w := w) hv (opnd_ok hT hx)
      exact good_one hM hp (x := u) (by simp only [execOp, Sem.run_bind, hr, Result.andThen_ok, Sem.run_pure]) hu
    · cases h
  case h_14 t x i =>
    split at h
    · rename_i ax ai hx hi
      rcases index_ok hM hp h (opnd_ok hT hx) (opnd_ok hT hi) with h1 | ⟨pc', v, u, hmem, hp', hv, hr⟩
      · exact .inl h1
      · exact .inr ⟨pc', v, s.m, [], w, u, _, hmem, hp', by simp only [execOp, Sem.run_bind, hr, Result.andThen_ok, Sem.run_pure], .inl rfl, by simpa using hv, by simpa using hM, fun _ => ⟨rfl, rfl⟩, by simp⟩
    · cases h
  case h_15 x i =>
    split at h
    · rename_i vs hvs
      have hd := opnd_ok hT hvs
      simp only [den, Option.map_eq_some_iff] at hd
      obtain ⟨us, hus, he⟩ := hd
      split at h
      · rename_i c hc
        obtain ⟨v, hv, rfl⟩ := one_inv h
        simp at hv; subst hv
        obtain ⟨u, hu, hcu⟩ := (denT_get hus i).1 c hc
        exact good_one hM hp (x := u) (by simp [execOp, ← he, Instr.extract, hu, Sem.run_bind]) hcu
      · rename_i cs hc
        obtain ⟨v, hv, rfl⟩ := one_inv h
        simp at hv; subst hv
        obtain ⟨u, hu, hcu⟩ := (denT_get hus i).2 cs hc
        exact good_one hM hp (x := u) (by simp [execOp, ← he, Instr.extract, hu, Sem.run_bind]) hcu
      · cases h
    · cases h
  case h_16 args argTypes =>
    split at h
    · rename_i x t hx ht
      split at h
      · rename_i ax hax
        obtain ⟨v, hv, rfl⟩ := one_inv h
        obtain ⟨u, hu, hr⟩ := len_ok (w := w) ty hv (opnd_ok hT hax)
        have e1 : args = #[x] := Array.ext' hx
        have e2 : argTypes = #[t] := Array.ext' ht
        subst e1; subst e2
        refine good_one hM hp (x := u) ?_ hu
        simp [execOp, resolve, invoke, builtin, Sem.run_bind, hr]
      · cases h
    · cases h
  case h_17 => cases h
end
end Go.SE
