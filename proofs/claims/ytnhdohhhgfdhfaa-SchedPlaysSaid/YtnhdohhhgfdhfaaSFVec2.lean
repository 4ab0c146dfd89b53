/- The operations on slices of tables do what the machine of unknowns says. -/
import Derived.Test.YtnhdohhhgfdhfaaSFVec
namespace Go.SF
set_option linter.unusedVariables false
set_option linter.unusedSimpArgs false

section
variable {Φ : Sig} {ρ : Env} {μ : List Loc} {P : Program} {B : Base} {w : World} {s : St} {a : Act} {pc : List SB}

theorem RepVec.less {ks : List CK} {e : TypeId} {A : Tab} {l : Loc} (h : RepVec ks e A w l) (i : Nat) (hi : i ≤ A.length) : RepVec ks e (A.take i) w { l with cap := i } := by
  obtain ⟨h1, h2, h3, h4, h5, h6⟩ := h
  refine ⟨h1, h2, fun r hr => h3 r (List.mem_of_mem_take hr), by simp; omega, by simp; omega, ?_⟩
  by_cases hn : l.nl = true
  · rw [if_pos hn] at h6 ⊢
    exact ⟨by simp; omega, h6.2⟩
  · rw [if_neg hn] at h6 ⊢
    obtain ⟨ho, cs, hc, hs, hcell⟩ := h6
    refine ⟨ho, cs, hc, ?_, fun j v hv => hcell j v ?_⟩
    · have : i * l.str ≤ l.cap * l.str := Nat.mul_le_mul_right _ (by omega)
      simp; omega
    · have e1 : A.flatMap (rowVals ks) = (A.take i).flatMap (rowVals ks) ++ (A.drop i).flatMap (rowVals ks) := by
        rw [← List.flatMap_append, List.take_append_drop]
      rw [e1, List.getElem?_append_left (List.getElem?_eq_some_iff.1 hv).1]
      exact hv

def DstAt (s : St) (μ : List Loc) (l : Loc) : Option Nat → Prop
  | none => l.own = []
  | some id => ∃ l' o, s.m.o[id]? = some o ∧ o.excl = true ∧ μ[id]? = some l' ∧ l.own = l'.own
/-- The row onto which is appended. -/
theorem dst_ok (hM : MRel Φ ρ μ B s.m w) (hp : holds Φ ρ pc) {ks : List CK} {e : TypeId} (h0 : 0 < ks.length) {x : AV} {vx : Value} {d : Option Nat} {A : SL} (h : dstOf s pc (.vec ks e) x = some (d, A)) (hx : den Φ ρ μ x = some vx) :
    ∃ l, RepVec ks e (A.ev Φ ρ) w l ∧ vx = vsVal l 0 (A.ev Φ ρ).length l.cap ∧ DstAt s μ l d := by
  unfold dstOf at h
  split at h
  · simp at h; obtain ⟨rfl, rfl⟩ := h
    simp only [den, denC] at hx
    split at hx
    · simp at hx; subst hx
      exact ⟨nilLoc ks, by simpa using rep_nil h0, by simp [vsVal, nilLoc], rfl⟩
    · cases hx
  · rename_i id n cap
    cases ho : s.m.o[id]? with
    | none => rw [ho] at h; cases h
    | some o =>
    rw [ho] at h
    cases o with
    | cells => cases h
    | ext => cases h
    | dead => cases h
    | iter => cases h
    | lists => cases h
    | abs k' A' =>
      simp only at h
      by_cases hk : k' = AK.vec ks e
      · rw [if_pos hk] at h
        subst hk
        obtain ⟨l, hl, g0, g1, g2, g3, g4, rfl⟩ := den_vs hx
        have hR : RepVec ks e (A'.ev Φ ρ) w l := hM.obj id _ l ho hl
        simp only [ev_c] at g3 g2
        split at h
        · split at h
          · rename_i hs
            have := SI.same_eq _ _ hs
            simp at h; obtain ⟨rfl, rfl⟩ := h
            subst this
            refine ⟨l, hR, ?_, l, _, ho, rfl, hl, rfl⟩
            simp [vcap]
          · cases h
        · rename_i c
          split at h
          · rename_i hs
            have := SI.same_eq _ _ hs
            subst this
            simp only [Option.map_eq_some_iff, Prod.mk.injEq] at h
            obtain ⟨C, hC, rfl, rfl⟩ := h
            obtain ⟨e1, e2⟩ := cutOf_ok hp hC g0 g1
            simp at e1 e2
            have hR' := hR.less (n.ev Φ ρ).toNat (by omega)
            refine ⟨{ l with cap := (n.ev Φ ρ).toNat }, by rw [e1]; exact hR', ?_, l, _, ho, rfl, hl, rfl⟩
            have : (C.ev Φ ρ).length = (n.ev Φ ρ).toNat := by rw [e1]; simp; omega
            rw [this]
            simp [vcap, vsVal]
          · cases h
      · rw [if_neg hk] at h; cases h
  · cases h

theorem fits_ok (hp : holds Φ ρ pc) {n : SI} {bytes most : Nat} (h : fits pc n bytes most = true) (h0 : 0 ≤ n.ev Φ ρ) : (n.ev Φ ρ).toNat * bytes ≤ most ∧ (n.ev Φ ρ).toNat ≤ maxLen := by
  unfold fits at h
  split at h
  · rename_i x hx
    simp only [Bool.and_eq_true] at h
    have h1 := Nat.le_of_ble_eq_true h.1
    have h2 := Nat.le_of_ble_eq_true h.2
    have := hi_ok Φ ρ hp hx
    have hle : (n.ev Φ ρ).toNat ≤ x := by
      have : n.ev Φ ρ ≤ (x : Int) := this
      omega
    refine ⟨Nat.le_trans (Nat.mul_le_mul_right _ hle) h1, ?_⟩
    simp only [maxLen]; omega
  · cases h

/-- One operation's ways, as it is asked for below. -/
def Good (Φ : Sig) (ρ : Env) (μ : List Loc) (B : Base) (w : World) (outs : List (List SB × Option (AV × Mem))) (run : Result Value) : Prop :=
  (∃ pc', (pc', none) ∈ outs ∧ holds Φ ρ pc') ∨
  ∃ pc' v m' ν w' x, (pc', some (v, m')) ∈ outs ∧ holds Φ ρ pc' ∧ run = .ok x w' ∧ den Φ ρ (μ ++ ν) v = some x ∧ MRel Φ ρ (μ ++ ν) B m' w'

theorem good_shift {l : Loc} {outs : List (List SB × Option (AV × Mem))} {run : Result Value} (h : Good Φ ρ (μ ++ [l]) B w outs run) : Good Φ ρ μ B w outs run := by
  rcases h with h | ⟨pc', v, m', ν, w', x, h1, h2, h3, h4, h5⟩
  · exact .inl h
  · rw [List.append_assoc] at h4 h5
    exact .inr ⟨pc', v, m', [l] ++ ν, w', x, h1, h2, h3, h4, h5⟩
def dropLoc (l : Loc) (lo : Nat) : Loc := { l with base := if l.cap ≤ lo then l.base else l.base + lo * l.str, cap := l.cap - lo }

theorem RepVec.drop {ks : List CK} {e : TypeId} {A : Tab} {l : Loc} (h : RepVec ks e A w l) (lo : Nat) (hi : lo ≤ A.length) : RepVec ks e (A.drop lo) w (dropLoc l lo) := by
  obtain ⟨h1, h2, h3, h4, h5, h6⟩ := h
  refine ⟨h1, h2, fun r hr => h3 r (List.mem_of_mem_drop hr), by simp [dropLoc]; omega, by simp [dropLoc]; omega, ?_⟩
  by_cases hn : l.nl = true
  · rw [if_pos hn] at h6
    rw [if_pos (by exact hn)]
    exact ⟨by simp [dropLoc]; omega, h6.2⟩
  · rw [if_neg hn] at h6
    rw [if_neg (by exact hn)]
    obtain ⟨ho, cs, hc, hs, hcell⟩ := h6
    refine ⟨ho, cs, hc, ?_, fun j v hv => ?_⟩
    · simp only [dropLoc]
      split
      · rename_i hle
        have : (l.cap - lo) * l.str = 0 := by rw [Nat.sub_eq_zero_of_le hle]; simp
        omega
      · rename_i hle
        have : (lo + (l.cap - lo)) * l.str ≤ cs.size - l.base := by rw [Nat.add_sub_cancel' (by omega)]; omega
        rw [Nat.add_mul] at this
        omega
    · have hlt : lo < A.length := by
        rcases Nat.lt_or_ge lo A.length with h' | h'
        · exact h'
        · rw [List.drop_of_length_le h'] at hv; simp at hv
      have h5 := flat_drop h3 lo (A.length - lo) (by omega) j v (by rw [List.take_of_length_le (by simp)]; exact hv)
      have := hcell _ _ h5
      simp only [dropLoc]
      rw [if_neg (by omega), h1, Nat.add_assoc]
      exact this

theorem vsVal_drop (l : Loc) (lo k : Nat) : vsVal (dropLoc l lo) 0 k (l.cap - lo) = vsVal l lo k (l.cap - lo) := by
  by_cases hz : l.cap ≤ lo
  · simp [vsVal, dropLoc, hz, Nat.sub_eq_zero_of_le hz]
  · simp [vsVal, dropLoc, hz, show ¬ l.cap - lo = 0 by omega]

theorem canon_ok {m m' : Mem} (h : MRel Φ ρ μ B m w) {id : Nat} {lo n : SI} {v : CV} {x : Value} (hc : canon m id lo n = some (v, m')) (hx : denC Φ ρ μ (.vs id lo n none) = some x) :
    ∃ l', MRel Φ ρ (μ ++ [l']) B m' w ∧ denC Φ ρ (μ ++ [l']) v = some x := by
  unfold canon at hc
  split at hc
  · rename_i ks ty A ho
    split at hc
    · rename_i hs
      have := SI.same_eq _ _ hs
      simp only [Option.some.injEq, Prod.mk.injEq] at hc
      obtain ⟨rfl, rfl⟩ := hc
      subst this
      obtain ⟨l, hl, h0, h1, h2, h3, h4, rfl⟩ := den_vs hx
      simp at h1 h2
      have hR : RepVec ks ty (A.ev Φ ρ) w l := h.obj id _ l ho hl
      have hR' := hR.drop (lo.ev Φ ρ).toNat (by omega)
      refine ⟨dropLoc l (lo.ev Φ ρ).toNat, h.move ho rfl hl (fun _ _ _ => rfl) (Nat.le_refl _) ⟨rfl, rfl, rfl⟩ (fun b hb => ⟨.inl hb, h.lt id _ l ho rfl hl b hb⟩) ?_, ?_⟩
      · show RepVec ks ty ((mkDrop A lo).ev Φ ρ) w _
        rw [ev_mkDrop]; exact hR'
      · have hl' : (μ ++ [dropLoc l (lo.ev Φ ρ).toNat])[m.o.length]? = some (dropLoc l (lo.ev Φ ρ).toNat) := by rw [← h.len, List.getElem?_append_right (Nat.le_refl _)]; simp
        have hle := hR.2.2.2.1
        simp only [vcap] at h2 h3
        have := den_vs_mk (Φ := Φ) (ρ := ρ) (lo := .c 0) (len := mkLen 60 (mkDrop A lo)) (cap := none) hl' (by simp) (by simp) (by simp [vcap, dropLoc]; omega) (by simp [vcap]) (fun hn => by simp only [dropLoc]; have := h4 hn; omega)
        rw [this]
        have e0 : (vcap Φ ρ (dropLoc l (lo.ev Φ ρ).toNat) (.c 0) none).toNat = l.cap - (lo.ev Φ ρ).toNat := by simp [vcap, dropLoc]
        have e1 : ((mkLen 60 (mkDrop A lo)).ev Φ ρ).toNat = (A.ev Φ ρ).length - (lo.ev Φ ρ).toNat := by simp
        have e2 : (vcap Φ ρ l lo none).toNat = l.cap - (lo.ev Φ ρ).toNat := by simp only [vcap]; omega
        have e3 : ((mkSub (mkLen 60 A) lo).ev Φ ρ).toNat = (A.ev Φ ρ).length - (lo.ev Φ ρ).toNat := by simp; omega
        rw [e0, e1, e2, e3, ← vsVal_drop]
        simp
    · cases hc
  · cases hc

theorem append_ok0 (hM : MRel Φ ρ μ B s.m w) (hp : holds Φ ρ pc) {t ty : TypeId} {x y : AV} {vx vy : Value} {outs : List (List SB × Option (AV × Mem))} (h : appendOp0 P s pc t x y = some outs)
    (hx : den Φ ρ μ x = some vx) (hy : den Φ ρ μ y = some vy) : Good Φ ρ μ B w outs ((Builtin.append_ #[t, t] ty #[vx, vy]).run P w) := by
  unfold appendOp0 at h
  split at h
  · rename_i e ht
    split at h
    · rename_i ks info z hks hi hz
      split at h
      · rename_i hc
        simp only [Bool.and_eq_true, decide_eq_true_eq] at hc
        obtain ⟨⟨h0, hzl⟩, hsz⟩ := hc
        split at h
        · rename_i d A ws hd hs
          obtain ⟨l, hR, rfl, hdd⟩ := dst_ok hM hp h0 hd hx
          obtain ⟨pc', S, hm, hp', hS⟩ := src_ok hM hp hs hy
          obtain ⟨ys, hys, hsub⟩ := bindO_mem h _ hm
          simp only at hys
          split at hys
          · rename_i hf
            simp at hys; subst hys
            unfold tyZero at hz
            simp only [Option.bind_eq_some_iff] at hz
            obtain ⟨zv, ⟨i', hi', hiz⟩, hzz⟩ := hz
            rw [hi] at hi'; cases hi'
            have hzc : zv.cells.size = ks.length := by
              have := denL_length (den_cells (absV_ok (Φ := Φ) (ρ := ρ) (μ := μ) hzz) (absV_noTup hzz))
              rw [← hzl, ← this]; rfl
            have hev : (mkLen 60 (mkCat A S)).ev Φ ρ = (((A.ev Φ ρ) ++ (S.ev Φ ρ)).length : Int) := by rw [ev_mkLen, ev_mkCat]
            obtain ⟨hb, hmx⟩ := fits_ok hp' hf (by rw [hev]; omega)
            rw [hev] at hb hmx
            simp only [List.length_append, Int.toNat_natCast] at hb hmx
            obtain ⟨w', l', hrun, hR', hfr, hsz', hos, hown⟩ := append_core (ty := ty) hR hS ht hi hiz hsz hzc hb hmx
            have hval : ∀ (ν : List Loc), (μ ++ [l'])[s.m.o.length]? = some l' := fun _ => by rw [← hM.len, List.getElem?_append_right (Nat.le_refl _)]; simp
            have hden : den Φ ρ (μ ++ [l']) (.cv (.vs s.m.o.length (.c 0) (mkLen 60 (mkCat A S)) none)) = some (vsVal l' 0 ((A.ev Φ ρ).length + (S.ev Φ ρ).length) l'.cap) := by
              have hle := hR'.2.2.2.1
              have h := den_vs_mk (Φ := Φ) (ρ := ρ) (lo := .c 0) (len := mkLen 60 (mkCat A S)) (cap := none) (hval []) (by simp) (by rw [hev]; omega) (by rw [hev]; simp only [vcap, ev_c]; omega) (by simp only [vcap, ev_c]; omega)
                (fun hn => by have h6 := hR'.2.2.2.2.2; rw [if_pos hn] at h6; exact h6.1)
              rw [hev] at h
              simp only [ev_c, vcap, Int.toNat_zero, Int.sub_zero, Int.toNat_natCast, List.length_append] at h
              exact h
            refine .inr ⟨pc', _, _, [l'], w', _, hsub _ (List.mem_singleton.2 rfl), hp', hrun, hden, ?_⟩
            cases d with
            | none =>
              simp only [DstAt] at hdd ⊢
              refine hM.push (fun b hb => hfr b hb (by rw [hdd]; simp)) hsz' hos (fun b hb => ⟨?_, (hown b hb).2⟩) ?_
              · rcases (hown b hb).1 with h1 | h1
                · rw [hdd] at h1; cases h1
                · exact h1
              · show RepVec ks e ((mkCat A S).ev Φ ρ) w' l'
                rw [ev_mkCat]; exact hR'
            | some id =>
              obtain ⟨l2, o, ho, hoe, hl2, hle⟩ := hdd
              simp only
              refine hM.move ho hoe hl2 (fun b hb hne => hfr b hb (by rw [hle]; exact hne)) hsz' hos (fun b hb => ⟨?_, (hown b hb).2⟩) ?_
              · rw [← hle]; exact (hown b hb).1
              · show RepVec ks e ((mkCat A S).ev Φ ρ) w' l'
                rw [ev_mkCat]; exact hR'
          · cases hys
        · cases h
      · cases h
    · cases h
  · cases h

theorem append_ok (hM : MRel Φ ρ μ B s.m w) (hp : holds Φ ρ pc) {t ty : TypeId} {x y : AV} {vx vy : Value} {outs : List (List SB × Option (AV × Mem))} (h : appendOp P s pc t x y = some outs)
    (hx : den Φ ρ μ x = some vx) (hy : den Φ ρ μ y = some vy) : Good Φ ρ μ B w outs ((Builtin.append_ #[t, t] ty #[vx, vy]).run P w) := by
  unfold appendOp at h
  split at h
  · exact append_ok0 hM hp h hx hy
  · split at h
    · rename_i v m hc
      obtain ⟨l', hM', hx'⟩ := canon_ok hM hc hx
      have := append_ok0 (s := ⟨s.n, s.t, m⟩) (ty := ty) hM' hp h hx' (den_mono hy)
      exact good_shift this
    · cases h
  · exact append_ok0 hM hp h hx hy

def setFrom : List Int → Nat → List Int → List Int
  | row, _, [] => row
  | row, j, x :: xs => setFrom (row.set j x) (j + 1) xs
theorem setRow_ok : ∀ (xs : List SI) (A : SL) (r : SI) (j : Nat), (setRow A r j xs).ev Φ ρ = (A.ev Φ ρ).modify (r.ev Φ ρ).toNat fun row => setFrom row j (xs.map (·.ev Φ ρ))
  | [], A, r, j => by
    apply List.ext_getElem?
    intro i
    simp only [setRow, List.map_nil, setFrom, List.getElem?_modify]
    cases (A.ev Φ ρ)[i]? <;> simp
  | x :: xs, A, r, j => by
    rw [setRow, setRow_ok xs, ev_mkSet]
    apply List.ext_getElem?
    intro i
    simp only [List.getElem?_modify]
    cases (A.ev Φ ρ)[i]? with
    | none => rfl
    | some row =>
      simp only [Option.map_some, List.map_cons, setFrom]
      by_cases hr : (r.ev Φ ρ).toNat = i
      · simp [hr]
      · simp [hr]

theorem setFrom_len : ∀ (xs row : List Int) (j : Nat), (setFrom row j xs).length = row.length
  | [], row, j => rfl
  | x :: xs, row, j => by rw [setFrom, setFrom_len xs, List.length_set]
theorem setFrom_get : ∀ (xs row : List Int) (j i : Nat), (setFrom row j xs)[i]? = if j ≤ i ∧ i < j + xs.length ∧ i < row.length then xs[i - j]? else row[i]?
  | [], row, j, i => by
    have : ¬ (j ≤ i ∧ i < j + ([] : List Int).length ∧ i < row.length) := by simp; omega
    rw [if_neg this]; rfl
  | x :: xs, row, j, i => by
    rw [setFrom, setFrom_get xs, List.length_set, List.length_cons]
    by_cases h1 : i = j
    · subst h1
      rw [if_neg (by omega)]
      by_cases h2 : i < row.length
      · rw [if_pos (by omega)]; simp [h2]
      · rw [if_neg (by omega)]; simp [h2]
    · by_cases h2 : j + 1 ≤ i ∧ i < j + 1 + xs.length ∧ i < row.length
      · rw [if_pos h2, if_pos (by omega), show i - j = (i - (j + 1)) + 1 by omega]; simp
      · rw [if_neg h2, if_neg (by omega), List.getElem?_set_ne (by omega)]

theorem okRow_iff : ∀ {ks : List CK} {row : List Int}, okRow ks row ↔ row.length = ks.length ∧ ∀ (j : Nat) (k : CK) (n : Int), ks[j]? = some k → row[j]? = some n → okCell k n
  | [], [] => by simp [okRow]
  | [], _ :: _ => by simp [okRow]
  | _ :: _, [] => by simp [okRow]
  | k :: ks, n :: ns => by
    rw [okRow, okRow_iff (ks := ks) (row := ns)]
    constructor
    · rintro ⟨h1, h2, h3⟩
      refine ⟨by simp [h2], fun j k' n' hk hn => ?_⟩
      cases j with
      | zero => simp at hk hn; subst hk; subst hn; exact h1
      | succ j => exact h3 j k' n' (by simpa using hk) (by simpa using hn)
    · rintro ⟨h1, h2⟩
      exact ⟨h2 0 k n rfl rfl, by simpa using h1, fun j k' n' hk hn => h2 (j + 1) k' n' (by simpa using hk) (by simpa using hn)⟩
theorem rowVals_iff {ks : List CK} {row : List Int} (h : row.length = ks.length) (j : Nat) : (rowVals ks row)[j]? = match ks[j]?, row[j]? with | some k, some n => some (ckVal k n) | _, _ => none := by
  induction ks generalizing row j with
  | nil => cases row <;> simp_all [rowVals]
  | cons k ks ih =>
    cases row with
    | nil => simp at h
    | cons n ns =>
      cases j with
      | zero => simp [rowVals]
      | succ j => simp only [rowVals, List.getElem?_cons_succ]; exact ih (by simpa using h) j

theorem get_flat {ks : List CK} {A : Tab} (hA : ∀ row ∈ A, okRow ks row) (h0 : 0 < ks.length) {i : Nat} {v : Value} (h : (A.flatMap (rowVals ks))[i]? = some v) :
    ∃ row, A[i / ks.length]? = some row ∧ (rowVals ks row)[i % ks.length]? = some v := by
  have hi := (List.getElem?_eq_some_iff.1 h).1
  rw [flat_len hA] at hi
  have hq : i / ks.length < A.length := (Nat.div_lt_iff_lt_mul h0).2 hi
  refine ⟨A[i / ks.length], List.getElem?_eq_getElem hq, ?_⟩
  rw [← flat_get hA (List.getElem?_eq_getElem hq) (Nat.mod_lt _ h0)]
  rw [Nat.mul_comm, Nat.div_add_mod]
  exact h

/-- Part of a row is written, where it lies. -/
theorem vecStore_ok (hM : MRel Φ ρ μ B s.m w) (hp : holds Φ ρ pc) {t : TypeId} {p : Pt} {n : Nat} {y : AV} {addr : Addr} {vy : Value} {ks : List CK} {ty : TypeId} {A : SL} {ws : List (List SB × List SI)} (hn : tySize P t = some n) (hnt : ∀ vs, y ≠ .tup vs)
    (ho : s.m.o[p.id]? = some (.abs (.vec ks ty) A)) (hlen : y.cells.length = n) (hle : p.j + n ≤ ks.length) (hlt : known pc (.lt p.r (mkLen 60 A)) = some true) (hw : rowI pc ((ks.drop p.j).take n) y.cells = some ws)
    (haddr : denPt Φ ρ μ p = some addr) (hy : den Φ ρ μ y = some vy) :
    ∃ pc' xs w', (pc', xs) ∈ ws ∧ holds Φ ρ pc' ∧ (Instr.storeAt t (.pointer (some addr)) vy).run P w = .ok () w' ∧
      MRel Φ ρ μ B { s.m with o := s.m.o.set p.id (.abs (.vec ks ty) (setRow A p.r p.j xs)), wr := p.id :: s.m.wr } w' := by
  obtain ⟨l, hl⟩ := obj_loc hM ho
  have hR : RepVec ks ty (A.ev Φ ρ) w l := hM.obj p.id _ l ho hl
  obtain ⟨h1, h2, h3, h4, h5, h6⟩ := hR
  have hk := known_ok Φ ρ hp _ _ hlt
  simp at hk
  have hc := den_cells hy hnt
  obtain ⟨pc', xs, hmem, hp', hvs, hok⟩ := rowI_ok hp hw hc
  have hcl := denL_length hc
  unfold denPt at haddr
  rw [hl] at haddr
  simp only at haddr
  split at haddr
  case isFalse => cases haddr
  rename_i hr0
  simp at haddr; subst haddr
  have hrl : (p.r.ev Φ ρ).toNat < (A.ev Φ ρ).length := by omega
  have hnl : ¬ l.nl = true := by
    intro e; rw [if_pos e] at h6; omega
  rw [if_neg hnl] at h6
  obtain ⟨hown, cs, hcs, hsz, hcell⟩ := h6
  have e1 : vy.cells.size = n := by have : vy.cells.toList.length = vy.cells.size := rfl; omega
  generalize hr : (p.r.ev Φ ρ).toNat = r at *
  have hfit : l.base + r * l.str + p.j + n ≤ cs.size := by
    have : (r + 1) * l.str ≤ l.cap * l.str := Nat.mul_le_mul_right _ (by omega)
    rw [Nat.add_mul, Nat.one_mul] at this
    omega
  have hst := run_storeCells_at P l.blk (l.base + r * l.str + p.j) ty vy.cells.toList 0 cs w hcs (by simp; omega) (denL_one hc)
  simp only [Nat.add_zero] at hst
  refine ⟨pc', xs, w.setRow l.blk (cs.toList.take (l.base + r * l.str + p.j) ++ vy.cells.toList ++ cs.toList.drop (l.base + r * l.str + p.j + vy.cells.toList.length)).toArray, hmem, hp', ?_, ?_⟩
  · simp only [Instr.storeAt, Instr.sureAddr, storeVar, Sem.run_bind, Sem.run_pure, Result.andThen_ok, run_sizeOf' hn, e1, ne_eq, not_true_eq_false, if_false]
    exact hst
  · have hxl : xs.length = n := by have := okRow_len hok; simp at this; omega
    have hvl : ∀ (i : Nat), vy.cells.toList[i]? = (rowVals ((ks.drop p.j).take n) (xs.map (·.ev Φ ρ)))[i]? := fun i => by rw [hvs]
    have hokA : ∀ row ∈ (setRow A p.r p.j xs).ev Φ ρ, okRow ks row := by
      intro row hrow
      rw [setRow_ok, hr] at hrow
      obtain ⟨i, hi⟩ := List.getElem?_of_mem hrow
      rw [List.getElem?_modify] at hi
      simp only [Option.map_eq_map, Option.map_eq_some_iff] at hi
      obtain ⟨row0, hrow0, he⟩ := hi
      have hok0 := h3 row0 (List.mem_of_getElem? hrow0)
      split at he
      · subst he
        have hl0 := okRow_len hok0
        rw [okRow_iff] at hok0 hok ⊢
        refine ⟨by rw [setFrom_len, hl0], fun j k m hj hm => ?_⟩
        rw [setFrom_get] at hm
        split at hm
        · rename_i hcond
          refine hok.2 (j - p.j) k m ?_ hm
          rw [List.getElem?_take, if_pos (by simp at hcond; omega), List.getElem?_drop, show p.j + (j - p.j) = j by omega]
          exact hj
        · exact hok0.2 j k m hj hm
      · subst he; exact hok0
    refine hM.upd ho rfl hl (fun b hb hne => setRow_heap_other w _ _ (fun e => hne (by rw [hown, e]; simp))) (by rw [setRow_size]; exact Nat.le_refl _) ⟨rfl, rfl, rfl⟩ (.inl rfl) ?_
    refine ⟨h1, h2, hokA, by rw [setRow_ok]; simpa using h4, h5, ?_⟩
    rw [if_neg hnl]
    refine ⟨hown, _, setRow_heap w l.blk _ _ ty _ hcs, ?_, fun i v hv => ?_⟩
    · simp only [List.size_toArray, List.length_append, List.length_take, List.length_drop, Array.length_toList]
      omega
    · have hmin : min (l.base + r * l.str + p.j) cs.size = l.base + r * l.str + p.j := by omega
      obtain ⟨row, hrow, hj⟩ := get_flat hokA h2 hv
      have hdm := Nat.div_add_mod i ks.length
      generalize hq : i / ks.length = q at *
      generalize hmod : i % ks.length = j at *
      have hjl : j < ks.length := by rw [← hmod]; exact Nat.mod_lt _ h2
      have hi : i = q * l.str + j := by rw [h1, Nat.mul_comm]; omega
      rw [setRow_ok, hr, List.getElem?_modify] at hrow
      simp only [Option.map_eq_map, Option.map_eq_some_iff] at hrow
      obtain ⟨row0, hrow0, he⟩ := hrow
      have hok0 := h3 row0 (List.mem_of_getElem? hrow0)
      have hl0 := okRow_len hok0
      -- what lay there before
      have old : ∀ u, (rowVals ks row0)[j]? = some u → cs[l.base + i]? = some u := by
        intro u hu
        refine hcell i u ?_
        rw [hi, h1, flat_get h3 hrow0 hjl]; exact hu
      simp only [List.getElem?_toArray]
      split at he
      · rename_i hqr
        subst hqr
        subst he
        rw [rowVals_iff (by rw [setFrom_len, hl0]), setFrom_get] at hj
        by_cases hin : p.j ≤ j ∧ j < p.j + n
        · rw [if_pos (by simp [hxl]; omega)] at hj
          rw [List.append_assoc, List.getElem?_append_right (by simp [hmin]; omega)]
          simp only [List.length_take, Array.length_toList, hmin]
          have e2 : l.base + i - (l.base + r * l.str + p.j) = j - p.j := by omega
          rw [e2, List.getElem?_append_left (by simp; omega), hvl, rowVals_iff (by simp [hxl]; omega)]
          rw [List.getElem?_take, if_pos (by omega), List.getElem?_drop, show p.j + (j - p.j) = j by omega]
          exact hj
        · rw [if_neg (by simp [hxl]; omega)] at hj
          have hu : (rowVals ks row0)[j]? = some v := by rw [rowVals_iff hl0]; exact hj
          have ho := old v hu
          rw [List.append_assoc]
          by_cases hb : j < p.j
          · rw [List.getElem?_append_left (by simp [hmin]; omega), List.getElem?_take, if_pos (by omega)]
            simpa using ho
          · rw [List.getElem?_append_right (by simp [hmin]; omega)]
            simp only [List.length_take, Array.length_toList, hmin]
            rw [List.getElem?_append_right (by simp; omega), List.getElem?_drop]
            simp only [Array.length_toList, e1]
            rw [show l.base + r * l.str + p.j + n + (l.base + i - (l.base + r * l.str + p.j) - n) = l.base + i by omega]
            simpa using ho
      · rename_i hqr
        subst he
        have ho := old v hj
        rw [List.append_assoc]
        rcases Nat.lt_or_ge q r with hlt2 | hge
        · have : (q + 1) * l.str ≤ r * l.str := Nat.mul_le_mul_right _ hlt2
          rw [Nat.add_mul, Nat.one_mul] at this
          rw [List.getElem?_append_left (by simp [hmin]; omega), List.getElem?_take, if_pos (by omega)]
          simpa using ho
        · have : (r + 1) * l.str ≤ q * l.str := Nat.mul_le_mul_right _ (by omega)
          rw [Nat.add_mul, Nat.one_mul] at this
          rw [List.getElem?_append_right (by simp [hmin]; omega)]
          simp only [List.length_take, Array.length_toList, hmin]
          rw [List.getElem?_append_right (by simp; omega), List.getElem?_drop]
          simp only [Array.length_toList, e1]
          rw [show l.base + r * l.str + p.j + n + (l.base + i - (l.base + r * l.str + p.j) - n) = l.base + i by omega]
          simpa using ho
/-! ### copy -/
theorem copy_core {ks : List CK} {t ty e : TypeId} {A S : Tab} {l : Loc} {vy : Value} {i : TypeInfo} (hR : RepVec ks e A w l) (hS : SrcVal w ks S vy)
    (ht : P.underlying t = some (.slice e)) (hi : P.info? e = some i) (hsz : i.size = ks.length) {lo n cap : Nat} (hlo : lo + n ≤ A.length) (hcap : n ≤ cap) (hnl0 : l.nl = true → n = 0) {k : Nat} (hk : k = Nat.min S.length n) :
    ∃ w', (Builtin.copy_ #[t, t] ty #[vsVal l lo n cap, vy]).run P w = .ok (goInt k) w' ∧ RepVec ks e (copyT A lo (S.take k)) w' l ∧
      (∀ b, b < w.heap.size → b ∉ l.own → w'.heap[b]? = w.heap[b]?) ∧ w.heap.size ≤ w'.heap.size ∧ (w'.os = w.os ∧ w'.tape = w.tape ∧ w'.output = w.output) := by
  have hR0 := hR
  obtain ⟨h1, h2, h3, h4, h5, h6⟩ := hR
  obtain ⟨hok, base, sc, rfl, hnone, hsome⟩ := hS
  have hkS : k ≤ S.length := hk ▸ Nat.min_le_left ..
  have hkn : k ≤ n := hk ▸ Nat.min_le_right ..
  by_cases hk0 : k = 0
  · have hm0 : Nat.min S.length n = 0 := by omega
    have hm0' : min S.length n = 0 := hm0
    refine ⟨w, ?_, ?_, fun _ _ _ => rfl, Nat.le_refl _, ⟨rfl, rfl, rfl⟩⟩
    · have hf : (Builtin.firstCells i.size 0 (.slice base S.length sc)).run P w = .ok #[] w := by
        cases base with
        | none => simp [Builtin.firstCells]
        | some ad => simp [Builtin.firstCells, loadCells, loadCellsFrom]
      unfold vsVal
      by_cases hnl : l.nl = true
      · rw [if_pos hnl]
        have : n = 0 := hnl0 hnl
        simp [Builtin.copy_, run_underlying ht, sizeOf, typeInfo, hi, Builtin.lenOf, hf, hk0]
      · rw [if_neg hnl]
        simp [Builtin.copy_, run_underlying ht, sizeOf, typeInfo, hi, Builtin.lenOf, hf, hk0, hm0', storeCells]
    · have : copyT A lo (S.take k) = A := by
        unfold copyT; rw [hk0]; simp
      rw [this]; exact hR0
  · have hn : 0 < n := by omega
    have hnl : ¬ l.nl = true := fun x => by have := hnl0 x; omega
    rw [if_neg hnl] at h6
    obtain ⟨hown, cs, hc, hcs, hcell⟩ := h6
    have hokT : ∀ row ∈ S.take k, okRow ks row := fun r hr => hok r (List.mem_of_mem_take hr)
    have hTl : (S.take k).length = k := by rw [List.length_take]; omega
    have hcl : ((S.take k).flatMap (rowVals ks)).length = k * i.size := by rw [flat_len hokT, hTl, hsz]
    have h1c : ∀ u ∈ (S.take k).flatMap (rowVals ks), u.oneCell' = true := by
      intro u hu
      obtain ⟨row, _, hr⟩ := List.mem_flatMap.1 hu
      exact rowVals_one u hr
    cases base with
    | none => have := hnone rfl; rw [this] at hkS; simp at hkS; omega
    | some ad =>
      have hnews : ∀ (j : Nat) (u : Value), ((S.take k).flatMap (rowVals ks))[j]? = some u → w.cell? (ad.add j) = some u := fun j u hu => by
        refine hsome ad rfl j u ?_
        have e1 : S.flatMap (rowVals ks) = (S.take k).flatMap (rowVals ks) ++ (S.drop k).flatMap (rowVals ks) := by rw [← List.flatMap_append, List.take_append_drop]
        rw [e1, List.getElem?_append_left (List.getElem?_eq_some_iff.1 hu).1]
        exact hu
      have hf := run_firstCells_some (P := P) w i.size k ad S.length sc _ hcl hnews
      have hlk : (lo + k) * l.str ≤ l.cap * l.str := Nat.mul_le_mul_right _ (by omega)
      rw [Nat.add_mul] at hlk
      have hfit : l.base + lo * l.str + ((S.take k).flatMap (rowVals ks)).length ≤ cs.size := by
        rw [hcl, hsz, ← h1]; omega
      have hst := run_storeCells_at P l.blk (l.base + lo * l.str) e ((S.take k).flatMap (rowVals ks)) 0 cs w hc (by simpa using hfit) h1c
      simp only [Nat.add_zero] at hst
      refine ⟨w.setRow l.blk (cs.toList.take (l.base + lo * l.str) ++ (S.take k).flatMap (rowVals ks) ++ cs.toList.drop (l.base + lo * l.str + ((S.take k).flatMap (rowVals ks)).length)).toArray, ?_, ⟨h1, h2, ?_, by rw [copyT_len]; exact h4, h5, ?_⟩, fun b hb hne => setRow_heap_other w _ _ (fun e => hne (by rw [hown, e]; simp)), by rw [setRow_size]; exact Nat.le_refl _, ⟨rfl, rfl, rfl⟩⟩
      · have hv : vsVal l lo n cap = .slice (some ⟨l.blk, l.base + lo * l.str, none⟩) n cap := by
          unfold vsVal; rw [if_neg hnl, if_neg (by omega)]
        rw [hv]
        simp [Builtin.copy_, run_underlying ht, sizeOf, typeInfo, hi, Builtin.lenOf, ← hk, hf, hst]
      · intro row hrow
        unfold copyT at hrow
        split at hrow
        · rcases List.mem_append.1 hrow with hrow | hrow
          · rcases List.mem_append.1 hrow with hrow | hrow
            · exact h3 row (List.mem_of_mem_take hrow)
            · exact hokT row hrow
          · exact h3 row (List.mem_of_mem_drop hrow)
        · exact h3 row hrow
      · rw [if_neg hnl]
        refine ⟨hown, _, setRow_heap w l.blk _ _ e _ hc, ?_, fun j v hv => ?_⟩
        · simp only [List.size_toArray, List.length_append, List.length_take, List.length_drop, Array.length_toList]
          omega
        · have hcond : lo + (S.take k).length ≤ A.length := by rw [hTl]; omega
          unfold copyT at hv
          rw [if_pos hcond, hTl, List.flatMap_append, List.flatMap_append] at hv
          have htl : ((A.take lo).flatMap (rowVals ks)).length = lo * l.str := by
            rw [flat_len (fun r hr => h3 r (List.mem_of_mem_take hr)), List.length_take, Nat.min_eq_left (by omega), h1]
          have hkl : ((S.take k).flatMap (rowVals ks)).length = k * l.str := by rw [hcl, hsz, h1]
          have hmin : min (l.base + lo * l.str) cs.size = l.base + lo * l.str := by omega
          simp only [List.getElem?_toArray]
          rw [List.append_assoc] at hv ⊢
          rcases Nat.lt_or_ge j (lo * l.str) with hj | hj
          · rw [List.getElem?_append_left (by rw [htl]; exact hj)] at hv
            rw [List.getElem?_append_left (by simp [hmin]; omega), List.getElem?_take, if_pos (by omega)]
            have e1 : A.flatMap (rowVals ks) = (A.take lo).flatMap (rowVals ks) ++ (A.drop lo).flatMap (rowVals ks) := by rw [← List.flatMap_append, List.take_append_drop]
            simpa using hcell j v (by rw [e1, List.getElem?_append_left (by rw [htl]; exact hj)]; exact hv)
          · rw [List.getElem?_append_right (by rw [htl]; exact hj), htl] at hv
            rw [List.getElem?_append_right (by simp [hmin]; omega)]
            simp only [List.length_take, Array.length_toList, hmin]
            rw [show l.base + j - (l.base + lo * l.str) = j - lo * l.str by omega]
            rcases Nat.lt_or_ge (j - lo * l.str) (k * l.str) with hj2 | hj2
            · rw [List.getElem?_append_left (by rw [hkl]; exact hj2)] at hv ⊢
              exact hv
            · rw [List.getElem?_append_right (by rw [hkl]; exact hj2), hkl] at hv
              rw [List.getElem?_append_right (by rw [hkl]; exact hj2), hkl, List.getElem?_drop]
              have e1 : A.flatMap (rowVals ks) = (A.take (lo + k)).flatMap (rowVals ks) ++ (A.drop (lo + k)).flatMap (rowVals ks) := by rw [← List.flatMap_append, List.take_append_drop]
              have hl2 : ((A.take (lo + k)).flatMap (rowVals ks)).length = lo * l.str + k * l.str := by
                rw [flat_len (fun r hr => h3 r (List.mem_of_mem_take hr)), List.length_take, Nat.min_eq_left (by omega), h1, Nat.add_mul]
              have := hcell j v (by rw [e1, List.getElem?_append_right (by rw [hl2]; omega), hl2, show j - (lo * l.str + k * l.str) = j - lo * l.str - k * l.str by omega]; exact hv)
              rw [show l.base + lo * l.str + k * l.str + (j - lo * l.str - k * l.str) = l.base + j by omega]
              simpa using this

theorem lenOfY_ok {ks : List CK} {y : AV} {vy : Value} {S : SL} (hy : den Φ ρ μ y = some vy) (hS : SrcVal w ks (S.ev Φ ρ) vy) : (lenOfY y S).ev Φ ρ = ((S.ev Φ ρ).length : Int) := by
  unfold lenOfY
  split
  · rename_i id lo n cap
    obtain ⟨l, hl, h0, h1, h2, h3, h4, rfl⟩ := den_vs hy
    obtain ⟨_, base, c, hv, _⟩ := hS
    unfold vsVal at hv
    split at hv
    · rename_i hnl
      have := h4 hnl
      simp only [Value.slice.injEq] at hv
      omega
    · simp only [Value.slice.injEq] at hv
      omega
  · simp
theorem lenLe_ok (hp : holds Φ ρ pc) {n m : SI} (h : lenLe pc n m = true) : n.ev Φ ρ ≤ m.ev Φ ρ := by
  unfold lenLe at h
  rw [Bool.or_eq_true, beq_iff_eq] at h
  rcases h with h | h
  · have := known_ok Φ ρ hp _ _ h
    simpa using this
  · unfold leSub at h
    split at h
    · rw [Bool.and_eq_true, beq_iff_eq] at h
      have e := SI.same_eq _ _ h.1
      have := known_ok Φ ρ hp _ _ h.2
      simp at this
      simp only [ev_sub, e]
      omega
    · cases h
theorem copy_ok (hM : MRel Φ ρ μ B s.m w) (hp : holds Φ ρ pc) {t ty : TypeId} {x y : AV} {vx vy : Value} {outs : List (List SB × Option (AV × Mem))} (h : copyOp P s pc t x y = some outs)
    (hx : den Φ ρ μ x = some vx) (hy : den Φ ρ μ y = some vy) : Good Φ ρ μ B w outs ((Builtin.copy_ #[t, t] ty #[vx, vy]).run P w) := by
  unfold copyOp at h
  split at h
  · rename_i e id lo n cap ht
    split at h
    · rename_i ks e' A info ho hi
      split at h
      · rename_i hc
        simp only [Bool.and_eq_true, decide_eq_true_eq, Option.isSome_iff_exists] at hc
        obtain ⟨⟨rfl, hsz⟩, C, hC⟩ := hc
        split at h
        · rename_i ws hs
          obtain ⟨l, hl, h0, h1, h2, h3, h4, rfl⟩ := den_vs hx
          have hR : RepVec ks e' (A.ev Φ ρ) w l := hM.obj id _ l ho hl
          obtain ⟨pc', S, hm, hp', hS⟩ := src_ok hM hp hs hy
          obtain ⟨ys, hys, hsub⟩ := bindO_mem h _ hm
          have hle := (cutOf_ok hp hC h0 h1).2
          have hcore := fun (k : Nat) (hk : k = Nat.min (S.ev Φ ρ).length (n.ev Φ ρ).toNat) => copy_core (P := P) (t := t) (ty := ty) hR hS ht hi hsz (lo := (lo.ev Φ ρ).toNat) (n := (n.ev Φ ρ).toNat) (cap := (vcap Φ ρ l lo cap).toNat) (by omega) (by omega)
            (fun hn => by have := h4 hn; omega) hk
          simp only at hys
          split at hys
          · rename_i hk
            simp at hys; subst hys
            have hk := lenLe_ok hp' hk
            have hly := lenOfY_ok hy hS
            obtain ⟨w', hrun, hR', hfr, hsz', hos⟩ := hcore (S.ev Φ ρ).length (by show _ = min _ _; omega)
            refine .inr ⟨pc', _, _, [], w', _, hsub _ (List.mem_singleton.2 rfl), hp', hrun, by simp [den, denC, goInt, hly], ?_⟩
            rw [List.append_nil]
            refine hM.upd ho rfl hl hfr hsz' hos (.inl rfl) ?_
            show RepVec ks e' ((mkCopy A lo S).ev Φ ρ) w' l
            rw [ev_mkCopy]
            rw [List.take_length] at hR'
            exact hR'
          · split at hys
            · rename_i hk
              simp at hys; subst hys
              have hk := lenLe_ok hp' hk
              have hly := lenOfY_ok hy hS
              obtain ⟨w', hrun, hR', hfr, hsz', hos⟩ := hcore (n.ev Φ ρ).toNat (by show _ = min _ _; omega)
              refine .inr ⟨pc', _, _, [], w', _, hsub _ (List.mem_singleton.2 rfl), hp', hrun, by simp [den, denC, goInt]; omega, ?_⟩
              rw [List.append_nil]
              refine hM.upd ho rfl hl hfr hsz' hos (.inl rfl) ?_
              show RepVec ks e' ((mkCopy A lo (mkTake S n)).ev Φ ρ) w' l
              rw [ev_mkCopy, ev_mkTake]
              exact hR'
            · cases hys
        · cases h
      · cases h
    · cases h
  · cases h
end
end Go.SF
