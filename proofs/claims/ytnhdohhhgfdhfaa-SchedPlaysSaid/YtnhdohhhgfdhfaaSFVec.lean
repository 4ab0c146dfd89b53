/- Slices of tables: rows built out of cells; append; slices of slices; make. -/
import Derived.Test.YtnhdohhhgfdhfaaSFOps4
import Derived.Laws.AppendOwn
import Derived.Laws.MakeOwn
import Derived.Laws.Slices
namespace Go.SF
set_option linter.unusedVariables false
set_option linter.unusedSimpArgs false

theorem bindO_mem {α β : Type} {f : α → Option (List β)} : ∀ {l : List α} {r : List β}, bindO l f = some r → ∀ x ∈ l, ∃ ys, f x = some ys ∧ ∀ y ∈ ys, y ∈ r
  | [], r, _, x, hx => by cases hx
  | z :: l, r, h, x, hx => by
    simp only [bindO] at h
    split at h
    · rename_i u v hu hv
      simp at h; subst h
      rcases List.mem_cons.1 hx with rfl | hx
      · exact ⟨u, hu, fun y hy => List.mem_append.2 (.inl hy)⟩
      · obtain ⟨ys, h1, h2⟩ := bindO_mem hv x hx
        exact ⟨ys, h1, fun y hy => List.mem_append.2 (.inr (h2 y hy))⟩
    · cases h

section
variable {Φ : Sig} {ρ : Env} {μ : List Loc} {P : Program} {B : Base} {w : World} {s : St} {a : Act} {pc : List SB}

/-! ### rows out of cells -/
theorem cellI_ok (hp : holds Φ ρ pc) {k : CK} {c : CV} {v : Value} {ws : List (List SB × SI)} (h : cellI pc k c = some ws) (hc : denC Φ ρ μ c = some v) :
    ∃ pc' x, (pc', x) ∈ ws ∧ holds Φ ρ pc' ∧ ckVal k (x.ev Φ ρ) = v ∧ okCell k (x.ev Φ ρ) := by
  unfold cellI at h
  split at h
  · rename_i k l x
    split at h
    · rename_i hk
      simp at h; subst h
      simp only [Bool.and_eq_true, decide_eq_true_eq, Bool.or_eq_true, Bool.not_eq_true'] at hk
      obtain ⟨rfl, hk⟩ := hk
      simp [denC] at hc; subst hc
      refine ⟨pc, x, by simp, hp, rfl, fun hs => ?_⟩
      rcases hk with hk | hk
      · rw [hk] at hs; cases hs
      · obtain ⟨m, hm, h1⟩ := leO_ok hk.1
        obtain ⟨n, hn, h2⟩ := leO_ok hk.2
        have := lo_ok Φ ρ hp hm; have := hi_ok Φ ρ hp hn
        omega
    · cases h
  · rename_i x
    split at h
    · rename_i y hy
      simp at h; subst h
      unfold boolI at hy
      split at hy
      case h_2 => cases hy
      rename_i y'
      split at hy
      case isFalse => cases hy
      rename_i hk
      simp only [Option.some.injEq] at hy; subst hy
      simp only [Bool.and_eq_true] at hk
      obtain ⟨m, hm, h1⟩ := leO_ok hk.1
      obtain ⟨n, hn, h2⟩ := leO_ok hk.2
      have h3 := lo_ok Φ ρ hp hm
      have h4 := hi_ok Φ ρ hp hn
      simp [denC] at hc; subst hc
      exact ⟨pc, y', by simp, hp, by simp [ckVal], by simp only [okCell]; omega⟩
    · simp at h; subst h
      obtain ⟨b, pc', hmem, hev, hp'⟩ := ways_ok Φ ρ x hp
      simp [denC, hev] at hc; subst hc
      refine ⟨pc', _, List.mem_map.2 ⟨(b, pc'), hmem, rfl⟩, hp', ?_, ?_⟩
      · cases b <;> simp [ckVal]
      · cases b <;> simp [okCell]
  · rename_i k l x
    split at h
    · rename_i hk
      simp at h; subst h
      simp only [Bool.and_eq_true, decide_eq_true_eq] at hk
      obtain ⟨rfl, hk⟩ := hk
      obtain ⟨m, hm, h1⟩ := leO_ok hk
      have := lo_ok Φ ρ hp hm
      simp [denC] at hc; subst hc
      exact ⟨pc, x, by simp, hp, rfl, by show 0 ≤ _; omega⟩
    · cases h
  · cases h

theorem rowI_ok : ∀ {ks : List CK} {cs : List CV} {pc : List SB} {vs : List Value} {ws : List (List SB × List SI)}, holds Φ ρ pc → rowI pc ks cs = some ws → denL Φ ρ μ cs = some vs →
    ∃ pc' xs, (pc', xs) ∈ ws ∧ holds Φ ρ pc' ∧ rowVals ks (xs.map (·.ev Φ ρ)) = vs ∧ okRow ks (xs.map (·.ev Φ ρ))
  | [], [], pc, vs, ws, hp, h, hc => by
    simp [rowI] at h; subst h
    simp [denL] at hc; subst hc
    exact ⟨pc, [], by simp, hp, rfl, trivial⟩
  | k :: ks, c :: cs, pc, vs, ws, hp, h, hc => by
    simp only [rowI] at h
    split at h
    · cases h
    · rename_i w1 h1
      simp only [denL] at hc
      split at hc
      · rename_i v us hv hus
        simp at hc; subst hc
        obtain ⟨pc1, x, hm1, hp1, hx, hok⟩ := cellI_ok hp h1 hv
        obtain ⟨ys, hys, hsub⟩ := bindO_mem h _ hm1
        simp only [Option.map_eq_some_iff] at hys
        obtain ⟨l, hl, rfl⟩ := hys
        obtain ⟨pc2, xs, hm2, hp2, hxs, hoks⟩ := rowI_ok hp1 hl hus
        exact ⟨pc2, x :: xs, hsub _ (List.mem_map.2 ⟨(pc2, xs), hm2, rfl⟩), hp2, by simp [rowVals, hx, hxs], ⟨hok, hoks⟩⟩
      · cases hc
  | [], _ :: _, _, _, _, _, h, _ => by simp [rowI] at h
  | _ :: _, [], _, _, _, _, h, _ => by simp [rowI] at h

theorem rowsI_ok {ks : List CK} : ∀ {n : Nat} {cs : List CV} {pc : List SB} {vs : List Value} {ws : List (List SB × SL)}, holds Φ ρ pc → rowsI pc ks n cs = some ws → denL Φ ρ μ cs = some vs → cs.length = n * ks.length →
    ∃ pc' A, (pc', A) ∈ ws ∧ holds Φ ρ pc' ∧ (A.ev Φ ρ).flatMap (rowVals ks) = vs ∧ (∀ row ∈ A.ev Φ ρ, okRow ks row) ∧ (A.ev Φ ρ).length = n
  | 0, cs, pc, vs, ws, hp, h, hc, hl => by
    simp [rowsI] at h; subst h
    have : cs = [] := List.eq_nil_of_length_eq_zero (by simpa using hl)
    subst this
    simp [denL] at hc; subst hc
    exact ⟨pc, .lit [], by simp, hp, by simp, by simp, by simp⟩
  | n + 1, cs, pc, vs, ws, hp, h, hc, hl => by
    simp only [rowsI] at h
    split at h
    · cases h
    · rename_i w1 h1
      rw [Nat.add_mul] at hl
      obtain ⟨pc1, xs, hm1, hp1, hx, hok⟩ := rowI_ok hp h1 (denL_take ks.length hc)
      obtain ⟨ys, hys, hsub⟩ := bindO_mem h _ hm1
      simp only [Option.map_eq_some_iff] at hys
      obtain ⟨l, hl', rfl⟩ := hys
      obtain ⟨pc2, A, hm2, hp2, hA, hoks, hlen⟩ := rowsI_ok hp1 hl' (denL_drop ks.length hc) (by simp; omega)
      refine ⟨pc2, mkCat (mkRow xs) A, hsub _ (List.mem_map.2 ⟨(pc2, A), hm2, rfl⟩), hp2, ?_, ?_, ?_⟩
      · simp only [ev_mkCat, ev_mkRow, List.singleton_append, List.flatMap_cons, hx, hA, List.take_append_drop]
      · intro row hr
        simp only [ev_mkCat, ev_mkRow, List.singleton_append, List.mem_cons] at hr
        rcases hr with rfl | hr
        · exact hok
        · exact hoks row hr
      · simp only [ev_mkCat, ev_mkRow, List.singleton_append, List.length_cons, hlen]

/-- Rows that a slice's value leads to. -/
def SrcVal (w : World) (ks : List CK) (S : Tab) (vy : Value) : Prop :=
  (∀ row ∈ S, okRow ks row) ∧ ∃ base cap, vy = .slice base S.length cap ∧ (base = none → S = []) ∧
    ∀ a, base = some a → ∀ (j : Nat) (u : Value), (S.flatMap (rowVals ks))[j]? = some u → w.cell? (a.add j) = some u

theorem cutOf_ok (hp : holds Φ ρ pc) {A C : SL} {lo n : SI} (h : cutOf pc A lo n = some C) (h0 : 0 ≤ lo.ev Φ ρ) (h1 : 0 ≤ n.ev Φ ρ) :
    C.ev Φ ρ = ((A.ev Φ ρ).drop (lo.ev Φ ρ).toNat).take (n.ev Φ ρ).toNat ∧ lo.ev Φ ρ + n.ev Φ ρ ≤ ((A.ev Φ ρ).length : Int) := by
  unfold cutOf at h
  split at h
  · split at h
    · rename_i hs
      have := SI.same_eq _ _ hs
      simp at h; subst h; subst this
      simp [List.take_of_length_le]
    · split at h
      · rename_i hk
        have hk := known_ok Φ ρ hp _ _ hk
        simp at hk h; subst h
        simp; omega
      · cases h
  · split at h
    · rename_i hs
      have := SI.same_eq _ _ hs
      simp at h; subst h; subst this
      simp at h1 ⊢
      refine ⟨?_, by omega⟩
      rw [List.take_of_length_le]
      simp; omega
    · split at h
      · rename_i hk
        have hk := known_ok Φ ρ hp _ _ hk
        simp at hk h; subst h
        simp; omega
      · cases h

theorem den_vs {id : Nat} {lo len : SI} {cap : Option SI} {v : Value} (h : denC Φ ρ μ (.vs id lo len cap) = some v) :
    ∃ l, μ[id]? = some l ∧ 0 ≤ lo.ev Φ ρ ∧ 0 ≤ len.ev Φ ρ ∧ len.ev Φ ρ ≤ vcap Φ ρ l lo cap ∧ lo.ev Φ ρ + vcap Φ ρ l lo cap ≤ l.cap ∧ (l.nl = true → l.cap = 0) ∧
      v = vsVal l (lo.ev Φ ρ).toNat (len.ev Φ ρ).toNat (vcap Φ ρ l lo cap).toNat := by
  simp only [denC] at h
  split at h
  · cases h
  · rename_i l hl
    split at h
    · rename_i hc
      simp at h
      exact ⟨l, hl, hc.1, hc.2.1, hc.2.2.1, hc.2.2.2.1, hc.2.2.2.2, h.symm⟩
    · cases h
theorem den_vs_mk {id : Nat} {lo len : SI} {cap : Option SI} {l : Loc} (hl : μ[id]? = some l) (h0 : 0 ≤ lo.ev Φ ρ) (h1 : 0 ≤ len.ev Φ ρ) (h2 : len.ev Φ ρ ≤ vcap Φ ρ l lo cap) (h3 : lo.ev Φ ρ + vcap Φ ρ l lo cap ≤ l.cap) (h4 : l.nl = true → l.cap = 0) :
    denC Φ ρ μ (.vs id lo len cap) = some (vsVal l (lo.ev Φ ρ).toNat (len.ev Φ ρ).toNat (vcap Φ ρ l lo cap).toNat) := by
  simp only [denC, hl]
  rw [if_pos ⟨h0, h1, h2, h3, h4⟩]

theorem flat_drop {ks : List CK} {A : Tab} (h : ∀ row ∈ A, okRow ks row) (lo n : Nat) (hl : lo + n ≤ A.length) (j : Nat) (u : Value)
    (hu : (((A.drop lo).take n).flatMap (rowVals ks))[j]? = some u) : (A.flatMap (rowVals ks))[lo * ks.length + j]? = some u := by
  have hd : ∀ row ∈ A.drop lo, okRow ks row := fun r hr => h r (List.mem_of_mem_drop hr)
  have ht : ∀ row ∈ (A.drop lo).take n, okRow ks row := fun r hr => hd r (List.mem_of_mem_take hr)
  have e1 : A.flatMap (rowVals ks) = (A.take lo).flatMap (rowVals ks) ++ (((A.drop lo).take n).flatMap (rowVals ks) ++ ((A.drop lo).drop n).flatMap (rowVals ks)) := by
    rw [← List.flatMap_append, List.take_append_drop, ← List.flatMap_append, List.take_append_drop]
  have hlt : ((A.take lo).flatMap (rowVals ks)).length = lo * ks.length := by
    rw [flat_len (fun r hr => h r (List.mem_of_mem_take hr)), List.length_take, Nat.min_eq_left (by omega)]
  rw [e1, List.getElem?_append_right (by rw [hlt]; omega), hlt, Nat.add_sub_cancel_left, List.getElem?_append_left (List.getElem?_eq_some_iff.1 hu).1]
  exact hu

theorem src_ok (hM : MRel Φ ρ μ B s.m w) (hp : holds Φ ρ pc) {ks : List CK} {y : AV} {vy : Value} {ws : List (List SB × SL)} (h : srcOf s pc ks y = some ws) (hy : den Φ ρ μ y = some vy) :
    ∃ pc' S, (pc', S) ∈ ws ∧ holds Φ ρ pc' ∧ SrcVal w ks (S.ev Φ ρ) vy := by
  unfold srcOf at h
  split at h
  · simp at h; subst h
    simp only [den, denC] at hy
    split at hy
    · simp at hy; subst hy
      exact ⟨pc, .lit [], by simp, hp, by simp, none, 0, by simp, by simp, by simp⟩
    · cases hy
  · rename_i p n cap
    split at h
    · rename_i cs ty ho hr
      split at h
      · rename_i hle
        simp only [den, denC] at hy
        split at hy
        · rename_i hc
          simp only [Option.map_eq_some_iff] at hy
          obtain ⟨ad, had, rfl⟩ := hy
          obtain ⟨l, hl⟩ := obj_loc hM ho
          obtain ⟨hb, hst, _, vs, hv, hh⟩ := hM.obj p.id _ l ho hl
          have := denPt_cells had hl hb hst
          subst this
          have hvl := denL_length hv
          obtain ⟨pc', S, hm, hp', hS, hok, hlen⟩ := rowsI_ok hp h (denL_take (n * ks.length) (denL_drop p.j hv)) (by simp; omega)
          refine ⟨pc', S, hm, hp', hok, some ⟨l.blk, p.j, none⟩, (cap.ev Φ ρ).toNat, by simp [hlen], by simp, fun a ha j u hu => ?_⟩
          simp at ha; subst ha
          rw [hS, List.getElem?_take] at hu
          split at hu
          · rw [List.getElem?_drop] at hu
            rw [add_eq _ rfl, cell_of_cells hh]; exact hu
          · cases hu
        · cases hy
      · cases h
    · cases h
  · rename_i id lo n cap
    split at h
    · rename_i ks' ty A ho
      split at h
      · rename_i hk
        subst hk
        simp only [Option.map_eq_some_iff] at h
        obtain ⟨C, hC, rfl⟩ := h
        obtain ⟨l, hl, h0, h1, h2, h3, h4, rfl⟩ := den_vs hy
        have hR : RepVec ks' ty (A.ev Φ ρ) w l := hM.obj id _ l ho hl
        obtain ⟨hst, hok, hc⟩ := rowsAt_vec hR
        obtain ⟨e, hle⟩ := cutOf_ok hp hC h0 h1
        have hlen : (C.ev Φ ρ).length = (n.ev Φ ρ).toNat := by rw [e]; simp; omega
        refine ⟨pc, C, by simp, hp, ?_⟩
        refine ⟨fun row hr => hok row (by rw [e] at hr; exact List.mem_of_mem_drop (List.mem_of_mem_take hr)), ?_⟩
        unfold vsVal
        split
        · rename_i hnl
          have h40 := h4 hnl
          have hA : A.ev Φ ρ = [] := List.eq_nil_of_length_eq_zero (by have := hR.2.2.2.1; omega)
          have : C.ev Φ ρ = [] := by rw [e, hA]; simp
          exact ⟨none, 0, by simp [this], fun _ => this, by simp⟩
        · refine ⟨_, _, by rw [hlen], by simp, fun ad had j u hu => ?_⟩
          simp at had; subst had
          rw [e] at hu
          have h5 := flat_drop hok _ _ (by omega) j u hu
          have hnz : ¬ vcap Φ ρ l lo cap ≤ 0 := by
            intro e0
            have : (n.ev Φ ρ).toNat = 0 := by omega
            rw [this] at hu; simp at hu
          rw [add_eq _ rfl, if_neg hnz]
          have := hc _ _ h5
          simp only
          rw [hst, Nat.add_assoc]; exact this
      · cases h
    · cases h
  · cases h

def nilLoc (ks : List CK) : Loc := ⟨0, 0, ks.length, 0, true, []⟩
theorem rep_nil {ks : List CK} {ty : TypeId} (h0 : 0 < ks.length) : RepVec ks ty [] w (nilLoc ks) := ⟨rfl, h0, by simp, by simp [nilLoc], by simp [nilLoc], by simp [nilLoc]⟩

theorem rowVals_one : ∀ {ks : List CK} {row : List Int}, ∀ v ∈ rowVals ks row, v.oneCell' = true
  | k :: ks, n :: ns, v, h => by
    simp only [rowVals, List.mem_cons] at h
    rcases h with rfl | h
    · cases k with
      | i => rfl
      | b => rfl
      | cd k => cases k <;> simp only [ckVal, qVal] <;> (try split) <;> rfl
    · exact rowVals_one v h
  | [], _, v, h => by simp [rowVals] at h
  | _ :: _, [], v, h => by simp [rowVals] at h

/-- append, wherever the rows come to lie. -/
theorem append_core {ks : List CK} {t ty e : TypeId} {A S : Tab} {l : Loc} {vy : Value} {i : TypeInfo} {z : Value} (hR : RepVec ks e A w l) (hS : SrcVal w ks S vy)
    (ht : P.underlying t = some (.slice e)) (hi : P.info? e = some i) (hz : i.zero = some z) (hsz : i.size = ks.length) (hzs : z.cells.size = ks.length)
    (hb : (A.length + S.length) * i.bytes ≤ 140737488355328) (hm : A.length + S.length ≤ maxLen) :
    ∃ w' l', (Builtin.append_ #[t, t] ty #[vsVal l 0 A.length l.cap, vy]).run P w = .ok (vsVal l' 0 (A.length + S.length) l'.cap) w' ∧ RepVec ks e (A ++ S) w' l' ∧
      (∀ b, b < w.heap.size → b ∉ l.own → w'.heap[b]? = w.heap[b]?) ∧ w.heap.size ≤ w'.heap.size ∧ (w'.os = w.os ∧ w'.tape = w.tape ∧ w'.output = w.output) ∧
      ∀ b ∈ l'.own, (b ∈ l.own ∨ w.heap.size ≤ b) ∧ b < w'.heap.size := by
  obtain ⟨h1, h2, h3, h4, h5, h6⟩ := hR
  obtain ⟨hok, base, cap, rfl, hnone, hsome⟩ := hS
  have hlt : ∀ b ∈ l.own, b < w.heap.size := by
    intro b hb
    split at h6
    · rw [h6.2] at hb; cases hb
    · obtain ⟨ho, cs, hc, _⟩ := h6
      rw [ho] at hb; simp at hb; subst hb
      exact (Array.getElem?_eq_some_iff.1 hc).1
  have hAS : ∀ row ∈ A ++ S, okRow ks row := fun row hr => (List.mem_append.1 hr).elim (h3 row) (hok row)
  have hSl : (S.flatMap (rowVals ks)).length = S.length * i.size := by rw [flat_len hok, hsz]
  have hAl : (A.flatMap (rowVals ks)).length = A.length * i.size := by rw [flat_len h3, hsz]
  have hS1 : ∀ u ∈ S.flatMap (rowVals ks), u.oneCell' = true := by
    intro u hu
    obtain ⟨row, _, hr⟩ := List.mem_flatMap.1 hu
    exact rowVals_one u hr
  by_cases hn : S = []
  · -- nothing to append
    subst hn
    refine ⟨w, l, ?_, by simpa using ⟨h1, h2, h3, h4, h5, h6⟩, fun _ _ _ => rfl, Nat.le_refl _, ⟨rfl, rfl, rfl⟩, fun b hb => ⟨.inl hb, hlt b hb⟩⟩
    have hf : (Builtin.firstCells i.size 0 (.slice base 0 cap)).run P w = .ok #[] w := by
      cases base with
      | none => simp [Builtin.firstCells]
      | some ad => simp [Builtin.firstCells, loadCells, loadCellsFrom]
    simp only [List.length_nil, Nat.add_zero]
    unfold vsVal
    by_cases hnl : l.nl = true
    · rw [if_pos hnl] at h6
      rw [if_pos hnl]
      simp [Builtin.append_, run_underlying ht, sizeOf, typeInfo, hi, Builtin.lenOf, hf]
    · rw [if_neg hnl]
      simp [Builtin.append_, run_underlying ht, sizeOf, typeInfo, hi, Builtin.lenOf, hf, h4, storeCells]
  · have hpos : 0 < S.length := List.length_pos_iff.2 hn
    cases base with
    | none => exact absurd (hnone rfl) hn
    | some ad =>
      have hnews := hsome ad rfl
      have hf := run_firstCells_some (P := P) w i.size S.length ad S.length cap _ hSl hnews
      have grown : ∀ (old : Nat) (need : Nat), need = A.length + S.length →
          RepVec ks e (A ++ S) (w.drew.alloc (.cells ((A.flatMap (rowVals ks)).toArray ++ (S.flatMap (rowVals ks)).toArray ++ Builtin.zeroCells z.cells (grownCap w need old e - need)) e))
            ⟨w.heap.size, 0, ks.length, grownCap w need old e, false, [w.heap.size]⟩ := by
        intro old need hneed
        have hge := grownCap_ge w need old e
        have hcm : grownCap w need old e ≤ maxLen := grownCap_le_maxLen w need old e (by omega)
        refine ⟨rfl, h2, hAS, by simp; omega, hcm, ?_⟩
        rw [if_neg (by simp)]
        refine ⟨rfl, _, heap_alloc_new w.drew _, ?_, fun j v hv => ?_⟩
        · simp only [Nat.zero_add, Array.size_append, List.size_toArray, size_zeroCells, hzs, hAl, hSl, hsz, ← Nat.add_mul]
          refine Nat.mul_le_mul_right _ ?_
          omega
        · rw [List.flatMap_append] at hv
          rw [Nat.zero_add, Array.getElem?_append_left (by have := (List.getElem?_eq_some_iff.1 hv).1; simpa using this)]
          rw [List.append_toArray]
          simpa using hv
      by_cases hnl : l.nl = true
      · rw [if_pos hnl] at h6
        have hA : A = [] := List.eq_nil_of_length_eq_zero (by omega)
        subst hA
        have hr := run_append_nil (P := P) w t ty e i z ht hi hz ad S.length cap _ hSl hnews hpos (by simp only [maxLen] at hm; simp at hm; omega) (by simp at hb; omega)
        have hg := grown 0 S.length (by simp)
        simp only [List.flatMap_nil, List.nil_append, Array.empty_append, Nat.zero_add, List.length_nil] at hg hr ⊢
        refine ⟨_, ⟨w.heap.size, 0, ks.length, grownCap w S.length 0 e, false, [w.heap.size]⟩, ?_, hg, fun b hb _ => heap_alloc_lt w.drew _ hb, by simp, ⟨rfl, rfl, rfl⟩, by simp⟩
        unfold vsVal
        rw [if_pos hnl]
        simpa using hr
      · rw [if_neg hnl] at h6
        obtain ⟨hown, cs, hc, hcs, hcell⟩ := h6
        have holds : ∀ (j : Nat) (u : Value), (A.flatMap (rowVals ks))[j]? = some u → w.cell? ((⟨l.blk, l.base, none⟩ : Addr).add j) = some u := by
          intro j u hu
          rw [add_eq _ rfl]
          simp only [World.cell?, hc]
          exact hcell j u hu
        have hv : vsVal l 0 A.length l.cap = .slice (some ⟨l.blk, l.base, none⟩) A.length l.cap := by
          unfold vsVal; rw [if_neg hnl]; simp
        by_cases hroom : A.length + S.length ≤ l.cap
        · have hfit : l.base + A.length * i.size + (S.flatMap (rowVals ks)).length ≤ cs.size := by
            rw [hSl, hsz, Nat.add_assoc, ← Nat.add_mul]
            refine Nat.le_trans (Nat.add_le_add_left (Nat.mul_le_mul_right _ hroom) _) (h1 ▸ hcs)
          have hst := run_storeCells_at P l.blk (l.base + A.length * i.size) e (S.flatMap (rowVals ks)) 0 cs w hc (by simpa using hfit) hS1
          simp only [Nat.add_zero] at hst
          refine ⟨w.setRow l.blk (cs.toList.take (l.base + A.length * i.size) ++ S.flatMap (rowVals ks) ++ cs.toList.drop (l.base + A.length * i.size + (S.flatMap (rowVals ks)).length)).toArray, l, ?_, ⟨h1, h2, hAS, by simp; omega, h5, ?_⟩, fun b hb hne => ?_, by rw [setRow_size]; exact Nat.le_refl _, ⟨rfl, rfl, rfl⟩, fun b hb => ⟨.inl hb, by rw [setRow_size]; exact hlt b hb⟩⟩
          · have hv' : vsVal l 0 (A.length + S.length) l.cap = .slice (some ⟨l.blk, l.base, none⟩) (A.length + S.length) l.cap := by
              unfold vsVal; rw [if_neg hnl]; simp
            rw [hv, hv']
            simp [Builtin.append_, run_underlying ht, sizeOf, typeInfo, hi, Builtin.lenOf, hroom, hf, Addr.add_lit, hst]
          · rw [if_neg hnl]
            refine ⟨hown, _, setRow_heap w l.blk _ _ e _ hc, ?_, fun j v hv => ?_⟩
            · simp only [List.size_toArray, List.length_append, List.length_take, List.length_drop, Array.length_toList]
              omega
            · rw [List.flatMap_append] at hv
              have hmin : min (l.base + A.length * i.size) cs.size = l.base + A.length * i.size := by omega
              rcases Nat.lt_or_ge j (A.length * i.size) with hj | hj
              · rw [List.getElem?_append_left (by rw [hAl]; exact hj)] at hv
                simp only [List.getElem?_toArray]
                rw [List.append_assoc, List.getElem?_append_left (by simp [hmin]; omega), List.getElem?_take, if_pos (by omega)]
                simpa using hcell j v hv
              · rw [List.getElem?_append_right (by rw [hAl]; exact hj), hAl] at hv
                simp only [List.getElem?_toArray]
                rw [List.append_assoc, List.getElem?_append_right (by simp [hmin]; omega)]
                simp only [List.length_take, Array.length_toList, hmin]
                rw [List.getElem?_append_left (by have := (List.getElem?_eq_some_iff.1 hv).1; omega), show l.base + j - (l.base + A.length * i.size) = j - A.length * i.size by omega]
                exact hv
          · refine setRow_heap_other w _ _ (fun e => hne (by rw [hown, e]; simp))
        · have hr := run_append_grow (P := P) w t ty e i z ht hi hz ⟨l.blk, l.base, none⟩ A.length l.cap _ hAl holds ad S.length cap _ hSl hnews (by omega) (by simp only [maxLen] at hm; omega) (growslice_fits (by omega) hb)
          have hg := grown l.cap (A.length + S.length) rfl
          refine ⟨_, ⟨w.heap.size, 0, ks.length, grownCap w (A.length + S.length) l.cap e, false, [w.heap.size]⟩, ?_, hg, fun b hb _ => heap_alloc_lt w.drew _ hb, by simp, ⟨rfl, rfl, rfl⟩, by simp⟩
          rw [hv, hr]
          unfold vsVal
          simp
end
end Go.SF
