/- What values and objects stand for, when more objects come, or one is written, or a slice moves. -/
import Derived.Test.YtnhdohhhgfdhfaaSFKnown
import Derived.Laws.CopyRow
namespace Go.SF
set_option linter.unusedVariables false
set_option linter.unusedSimpArgs false

section
variable {Φ : Sig} {ρ : Env} {μ ν : List Loc}

theorem get_app {i : Nat} {l : Loc} (h : μ[i]? = some l) : (μ ++ ν)[i]? = some l := by
  have := (List.getElem?_eq_some_iff.1 h).1
  rw [List.getElem?_append_left this]; exact h

theorem denPt_mono {p : Pt} {a : Addr} (h : denPt Φ ρ μ p = some a) : denPt Φ ρ (μ ++ ν) p = some a := by
  unfold denPt at *
  cases hl : μ[p.id]? with
  | none => rw [hl] at h; cases h
  | some l => rw [hl] at h; rw [get_app hl]; exact h

theorem denPts_mono : ∀ {ps : List Pt} {vs : List Value}, denPts Φ ρ μ ps = some vs → denPts Φ ρ (μ ++ ν) ps = some vs
  | [], vs, h => h
  | p :: ps, vs, h => by
    simp only [denPts] at h ⊢
    cases h1 : denPt Φ ρ μ p with
    | none => rw [h1] at h; cases h
    | some a =>
      cases h2 : denPts Φ ρ μ ps with
      | none => rw [h1, h2] at h; cases h
      | some us => rw [h1, h2] at h; rw [denPt_mono h1, denPts_mono h2]; exact h

theorem denC_mono {c : CV} {v : Value} (h : denC Φ ρ μ c = some v) : denC Φ ρ (μ ++ ν) c = some v := by
  cases c with
  | p a => cases a with
    | none => exact h
    | some p =>
      simp only [denC, Option.map_eq_some_iff] at h ⊢
      obtain ⟨a, ha, rfl⟩ := h
      exact ⟨a, denPt_mono ha, rfl⟩
  | sl a len cap => cases a with
    | none => exact h
    | some q =>
      simp only [denC] at h ⊢
      split at h
      · rename_i hc
        rw [if_pos hc]
        simp only [Option.map_eq_some_iff] at h ⊢
        obtain ⟨a, ha, rfl⟩ := h
        exact ⟨a, denPt_mono ha, rfl⟩
      · cases h
  | vs id lo len cap =>
    simp only [denC] at h ⊢
    cases hl : μ[id]? with
    | none => rw [hl] at h; cases h
    | some l => rw [hl] at h; rw [get_app hl]; exact h
  | m a => cases a with
    | none => exact h
    | some id =>
      simp only [denC, Option.map_eq_some_iff] at h ⊢
      obtain ⟨a, ha, rfl⟩ := h
      exact ⟨a, get_app ha, rfl⟩
  | cd k x => exact h
  | fn f caps =>
    simp only [denC, Option.map_eq_some_iff] at h ⊢
    obtain ⟨a, ha, rfl⟩ := h
    exact ⟨a, denPts_mono ha, rfl⟩
  | b x => exact h
  | i k x => exact h
  | s x => exact h
  | nilfn => exact h

theorem denL_mono : ∀ {cs : List CV} {vs : List Value}, denL Φ ρ μ cs = some vs → denL Φ ρ (μ ++ ν) cs = some vs
  | [], vs, h => h
  | c :: cs, vs, h => by
    simp only [denL] at h ⊢
    cases h1 : denC Φ ρ μ c with
    | none => rw [h1] at h; cases h
    | some a =>
      cases h2 : denL Φ ρ μ cs with
      | none => rw [h1, h2] at h; cases h
      | some us => rw [h1, h2] at h; rw [denC_mono h1, denL_mono h2]; exact h

theorem denT_mono : ∀ {cs : List (CV ⊕ List CV)} {vs : List Value}, denT Φ ρ μ cs = some vs → denT Φ ρ (μ ++ ν) cs = some vs
  | [], vs, h => h
  | .inl c :: cs, vs, h => by
    simp only [denT] at h ⊢
    cases h1 : denC Φ ρ μ c with
    | none => rw [h1] at h; cases h
    | some a =>
      cases h2 : denT Φ ρ μ cs with
      | none => rw [h1, h2] at h; cases h
      | some us => rw [h1, h2] at h; rw [denC_mono h1, denT_mono h2]; exact h
  | .inr c :: cs, vs, h => by
    simp only [denT] at h ⊢
    cases h1 : denL Φ ρ μ c with
    | none => rw [h1] at h; cases h
    | some a =>
      cases h2 : denT Φ ρ μ cs with
      | none => rw [h1, h2] at h; cases h
      | some us => rw [h1, h2] at h; rw [denL_mono h1, denT_mono h2]; exact h

theorem den_mono {v : AV} {x : Value} (h : den Φ ρ μ v = some x) : den Φ ρ (μ ++ ν) v = some x := by
  cases v with
  | cv c => exact denC_mono h
  | agg cs =>
    simp only [den, Option.map_eq_some_iff] at h ⊢
    obtain ⟨a, ha, rfl⟩ := h
    exact ⟨a, denL_mono ha, rfl⟩
  | tup cs =>
    simp only [den, Option.map_eq_some_iff] at h ⊢
    obtain ⟨a, ha, rfl⟩ := h
    exact ⟨a, denT_mono ha, rfl⟩

theorem TRel.mono {n : Nat} {t : List (Nat × AV)} {a : Act} (h : TRel Φ ρ μ n t a) : TRel Φ ρ (μ ++ ν) n t a :=
  ⟨h.sz, fun u v hv => ⟨(h.tm u v hv).1, den_mono (h.tm u v hv).2⟩, h.df⟩

theorem denL_length : ∀ {cs : List CV} {vs : List Value}, denL Φ ρ μ cs = some vs → vs.length = cs.length
  | [], vs, h => by simp [denL] at h; subst h; rfl
  | c :: cs, vs, h => by
    simp only [denL] at h
    cases h1 : denC Φ ρ μ c with
    | none => rw [h1] at h; cases h
    | some a =>
      cases h2 : denL Φ ρ μ cs with
      | none => rw [h1, h2] at h; cases h
      | some us => rw [h1, h2] at h; simp at h; subst h; simp [denL_length h2]

/-- Cell by cell. -/
theorem denL_iff : ∀ {cs : List CV} {vs : List Value}, denL Φ ρ μ cs = some vs ↔ (vs.length = cs.length ∧ ∀ (i : Nat) (c : CV) (v : Value), cs[i]? = some c → vs[i]? = some v → denC Φ ρ μ c = some v)
  | [], vs => by
    constructor
    · intro h; simp [denL] at h; subst h; simp
    · rintro ⟨h, _⟩; have : vs = [] := List.eq_nil_of_length_eq_zero h; subst this; rfl
  | c :: cs, [] => by
    constructor
    · intro h; have := denL_length h; simp at this
    · rintro ⟨h, _⟩; simp at h
  | c :: cs, v :: vs => by
    have ih := @denL_iff cs vs
    constructor
    · intro h
      have hl := denL_length h
      simp only [denL] at h
      cases h1 : denC Φ ρ μ c with
      | none => rw [h1] at h; cases h
      | some a =>
        cases h2 : denL Φ ρ μ cs with
        | none => rw [h1, h2] at h; cases h
        | some us =>
          rw [h1, h2] at h
          simp at h
          obtain ⟨rfl, rfl⟩ := h
          refine ⟨hl, fun i d u hd hu => ?_⟩
          cases i with
          | zero => simp at hd hu; subst hd; subst hu; exact h1
          | succ i => simp at hd hu; exact (ih.1 h2).2 i d u hd hu
    · rintro ⟨hl, h⟩
      have h1 := h 0 c v (by simp) (by simp)
      have h2 : denL Φ ρ μ cs = some vs := ih.2 ⟨by simpa using hl, fun i d u hd hu => h (i + 1) d u (by simpa using hd) (by simpa using hu)⟩
      simp [denL, h1, h2]

theorem denC_one {c : CV} {v : Value} (h : denC Φ ρ μ c = some v) : v.oneCell' = true := by
  cases c with
  | p a => cases a with
    | none => simp [denC] at h; subst h; rfl
    | some p => simp only [denC, Option.map_eq_some_iff] at h; obtain ⟨a, _, rfl⟩ := h; rfl
  | sl a len cap => cases a with
    | none => simp only [denC] at h; split at h <;> simp at h; subst h; rfl
    | some q =>
      simp only [denC] at h
      split at h
      · simp only [Option.map_eq_some_iff] at h; obtain ⟨a, _, rfl⟩ := h; rfl
      · cases h
  | vs id lo len cap =>
    simp only [denC] at h
    split at h
    · cases h
    · split at h
      · simp only [Option.some.injEq, vsVal] at h
        subst h
        split <;> rfl
      · cases h
  | m a => cases a with
    | none => simp [denC] at h; subst h; rfl
    | some id => simp only [denC, Option.map_eq_some_iff] at h; obtain ⟨a, _, rfl⟩ := h; rfl
  | cd k x => simp only [denC, Option.some.injEq] at h; subst h; cases k <;> simp only [qVal] <;> (try split) <;> rfl
  | fn f caps => simp only [denC, Option.map_eq_some_iff] at h; obtain ⟨a, _, rfl⟩ := h; unfold fnVal; split <;> rfl
  | b x => simp [denC] at h; subst h; rfl
  | i k x => simp [denC] at h; subst h; rfl
  | s x => simp [denC] at h; subst h; rfl
  | nilfn => simp [denC] at h; subst h; rfl

theorem denC_cells {c : CV} {v : Value} (h : denC Φ ρ μ c = some v) : v.cells = #[v] := by
  have := denC_one h
  cases v <;> simp_all [Value.cells, Value.oneCell']

/-- The cells of a value that is no tuple. -/
theorem den_cells {v : AV} {x : Value} (h : den Φ ρ μ v = some x) (hv : ∀ vs, v ≠ .tup vs) : denL Φ ρ μ v.cells = some x.cells.toList := by
  cases v with
  | cv c => simp only [den] at h; simp [AV.cells, denL, h, denC_cells h]
  | agg cs =>
    simp only [den, Option.map_eq_some_iff] at h
    obtain ⟨a, ha, rfl⟩ := h
    simpa [AV.cells, Value.cells] using ha
  | tup vs => exact absurd rfl (hv vs)

theorem putCells_eq : ∀ (cs : List CV) (off : Nat) (ds : List CV), off + ds.length ≤ cs.length → putCells cs off ds = cs.take off ++ ds ++ cs.drop (off + ds.length)
  | cs, off, [], h => by simp [putCells]
  | cs, off, d :: ds, h => by
    have h' : off + (ds.length + 1) ≤ cs.length := by simpa using h
    rw [putCells, putCells_eq (cs.set off d) (off + 1) ds (by simp; omega)]
    have e1 : (cs.set off d).take (off + 1) = cs.take off ++ [d] := by
      apply List.ext_getElem?
      intro j
      simp only [List.getElem?_take, List.getElem?_set, List.getElem?_append, List.length_take]
      by_cases hj : j < off
      · have : min off cs.length = off := by omega
        simp [hj, this, Nat.ne_of_gt hj]; omega
      · by_cases hj2 : j = off
        · subst hj2
          have : min j cs.length = j := by omega
          have hjl : j < cs.length := by omega
          simp [this, hjl]
        · have : min off cs.length = off := by omega
          have h3 : ¬ j < off + 1 := by omega
          simp [hj, this, h3]; omega
    have e2 : (cs.set off d).drop (off + 1 + ds.length) = cs.drop (off + (ds.length + 1)) := by
      apply List.ext_getElem?
      intro j
      simp only [List.getElem?_drop, List.getElem?_set]
      have : ¬ off = off + 1 + ds.length + j := by omega
      simp [this]; congr 1; omega
    rw [e1, e2]
    simp

theorem denL_app : ∀ {a b : List CV} {u v : List Value}, denL Φ ρ μ a = some u → denL Φ ρ μ b = some v → denL Φ ρ μ (a ++ b) = some (u ++ v)
  | [], b, u, v, h, k => by simp [denL] at h; subst h; simpa using k
  | c :: a, b, u, v, h, k => by
    simp only [denL] at h
    cases h1 : denC Φ ρ μ c with
    | none => rw [h1] at h; cases h
    | some x =>
      cases h2 : denL Φ ρ μ a with
      | none => rw [h1, h2] at h; cases h
      | some us =>
        rw [h1, h2] at h; simp at h; subst h
        simp [denL, h1, denL_app h2 k]

theorem denL_take {cs : List CV} {vs : List Value} (n : Nat) (h : denL Φ ρ μ cs = some vs) : denL Φ ρ μ (cs.take n) = some (vs.take n) := by
  rw [denL_iff] at h ⊢
  refine ⟨by simp [h.1], fun i c v hc hv => ?_⟩
  rw [List.getElem?_take] at hc hv
  split at hc
  · rename_i hi; rw [if_pos hi] at hv; exact h.2 i c v hc hv
  · cases hc
theorem denL_drop {cs : List CV} {vs : List Value} (n : Nat) (h : denL Φ ρ μ cs = some vs) : denL Φ ρ μ (cs.drop n) = some (vs.drop n) := by
  rw [denL_iff] at h ⊢
  refine ⟨by simp [h.1], fun i c v hc hv => ?_⟩
  rw [List.getElem?_drop] at hc hv
  exact h.2 _ c v hc hv

theorem denL_put {cs ds : List CV} {vs us : List Value} (off : Nat) (hl : off + ds.length ≤ cs.length) (h : denL Φ ρ μ cs = some vs) (k : denL Φ ρ μ ds = some us) :
    denL Φ ρ μ (putCells cs off ds) = some (vs.take off ++ us ++ vs.drop (off + us.length)) := by
  rw [putCells_eq _ _ _ hl, denL_length k]
  exact denL_app (denL_app (denL_take _ h) k) (denL_drop _ h)


/-! ### objects when more come -/
theorem repA_stays {k : AK} {A : Tab} {w w' : World} {l : Loc} (h : Φ.repA k A w l) (he : ∀ b ∈ l.own, w'.heap[b]? = w.heap[b]?) : Φ.repA k A w' l := by
  cases k with
  | user n => exact Φ.stays n A w w' l h he
  | vec ks ty =>
    obtain ⟨h1, h2, h3, h4, h5, h6⟩ := h
    refine ⟨h1, h2, h3, h4, h5, ?_⟩
    split at h6
    · rename_i hn; rw [if_pos hn]; exact h6
    · rename_i hn; rw [if_neg hn]
      obtain ⟨ho, cs, hc, hr⟩ := h6
      exact ⟨ho, cs, by rw [he _ (by rw [ho]; simp)]; exact hc, hr⟩
  | map kk ks sc =>
    obtain ⟨h1, h2, h3, es, clock, h4, h5⟩ := h
    exact ⟨h1, h2, h3, es, clock, by rw [he _ (by rw [h1]; simp)]; exact h4, h5⟩
  | chans ks cap =>
    obtain ⟨h0, h1, h2, h3⟩ := h
    refine ⟨h0, h1, h2, fun row hr => ?_⟩
    obtain ⟨g0, ms, s, r, g1, g2, g3, g4⟩ := h3 row hr
    exact ⟨g0, ms, s, r, g1, g2, g3, by rw [he _ (by rw [h1]; exact List.mem_map_of_mem hr)]; exact g4⟩
  | sit =>
    obtain ⟨h1, h2, h3, c, p, h4, h5, h7⟩ := h
    exact ⟨h1, h2, h3, c, p, h4, h5, by rw [he _ (by rw [h1]; simp)]; exact h7⟩

theorem RepVec.stays {ks : List CK} {ty : TypeId} {A : Tab} {w w' : World} {l : Loc} (h : RepVec ks ty A w l) (he : ∀ b ∈ l.own, w'.heap[b]? = w.heap[b]?) : RepVec ks ty A w' l := by
  obtain ⟨h1, h2, h3, h4, h5, h6⟩ := h
  refine ⟨h1, h2, h3, h4, h5, ?_⟩
  split at h6
  · rename_i hn; rw [if_pos hn]; exact h6
  · rename_i hn; rw [if_neg hn]
    obtain ⟨ho, cs, hc, hr⟩ := h6
    exact ⟨ho, cs, by rw [he _ (by rw [ho]; simp)]; exact hc, hr⟩
theorem RepLists.stays {k : List CK} {ety oty : TypeId} {A : Tab} {w w' : World} {lm : Loc} {own : List Nat} {hh : Option (Loc × Int)} (h : RepLists k ety oty A w lm own hh) (he : ∀ b ∈ own, w'.heap[b]? = w.heap[b]?) :
    RepLists k ety oty A w' lm own hh := by
  obtain ⟨h1, h2, h3, h4, h5, cs, ls, h6, h7, h8, h9, h10, h11⟩ := h
  refine ⟨h1, h2, h3, h4, h5, cs, ls, by rw [he _ h3]; exact h6, h7, h8, h9, fun i row li hr hl => ⟨(h10 i row li hr hl).1, fun hx => ?_⟩, h11⟩
  obtain ⟨g1, g2⟩ := (h10 i row li hr hl).2 hx
  exact ⟨g1.stays fun b hb => he b (g2 b hb).1, g2⟩
theorem ObjOK.of_heap {o : AObj} {w w' : World} {l : Loc} (h : ObjOK Φ ρ μ w l o) (he : ∀ b ∈ l.own, w'.heap[b]? = w.heap[b]?) : ObjOK Φ ρ μ w' l o := by
  cases o with
  | cells cs ty =>
    obtain ⟨h1, h2, h3, vs, h4, h5⟩ := h
    exact ⟨h1, h2, h3, vs, h4, by rw [he _ (by rw [h3]; simp)]; exact h5⟩
  | ext A ks =>
    obtain ⟨h1, h2, h4, h5⟩ := h
    refine ⟨h1, h2, h4, fun i v hv => ?_⟩
    have hne : A.ev Φ ρ ≠ [] := fun e => by rw [e] at hv; simp at hv
    have hb := he l.blk (by rw [h2 hne]; simp)
    have := h5 i v hv
    unfold World.cell? at this ⊢
    simp only at this ⊢
    rw [hb]
    exact this
  | abs k A => exact repA_stays h he
  | iter mid kk ks sc M cur =>
    obtain ⟨h1, h2, lm, h3, h4, h5, h6, hc, p1, p2, es, clock, seen, q1, q2, q3⟩ := h
    refine ⟨h1, h2, lm, h3, h4, h5, h6, ?_, p1, p2, es, clock, seen, by rw [he lm.blk (by rw [h5]; simp)]; exact q1, by rw [he l.blk (by rw [h5]; simp)]; exact q2, q3⟩
    cases cur with
    | none => trivial
    | some k =>
      obtain ⟨es', clock', seen', e, c1, c2, c3⟩ := hc
      exact ⟨es', clock', seen', e, by rw [he lm.blk (by rw [h5]; simp)]; exact c1, by rw [he l.blk (by rw [h5]; simp)]; exact c2, c3⟩
  | lists mid k ety oty A op =>
    obtain ⟨lm, h1, h2⟩ := h
    refine ⟨lm, h1, ?_⟩
    cases op with
    | none => exact h2.stays he
    | some x => obtain ⟨lj, h3, h4⟩ := h2; exact ⟨lj, h3, h4.stays he⟩
  | dead => trivial

theorem ObjOK.more {o : AObj} {w : World} {l : Loc} (h : ObjOK Φ ρ μ w l o) : ObjOK Φ ρ (μ ++ ν) w l o := by
  cases o with
  | cells cs ty =>
    obtain ⟨h1, h2, h3, vs, h4, h5⟩ := h
    exact ⟨h1, h2, h3, vs, denL_mono h4, h5⟩
  | ext A ks => exact h
  | abs k A => exact h
  | iter mid kk ks sc M cur =>
    obtain ⟨h1, h2, lm, h3, h4⟩ := h
    exact ⟨h1, h2, lm, get_app h3, h4⟩
  | lists mid k ety oty A op =>
    obtain ⟨lm, h1, h2⟩ := h
    refine ⟨lm, get_app h1, ?_⟩
    cases op with
    | none => exact h2
    | some x => obtain ⟨lj, h3, h4⟩ := h2; exact ⟨lj, get_app h3, h4⟩
  | dead => trivial

theorem get_last {l l' : Loc} {i : Nat} (hl : (μ ++ [l])[i]? = some l') : (μ[i]? = some l' ∧ i < μ.length) ∨ (i = μ.length ∧ l' = l) := by
  rcases Nat.lt_or_ge i μ.length with hi | hi
  · left; rw [List.getElem?_append_left hi] at hl; exact ⟨hl, hi⟩
  · right
    rw [List.getElem?_append_right hi] at hl
    have : i - μ.length = 0 := by
      rcases Nat.eq_zero_or_pos (i - μ.length) with h0 | h0
      · exact h0
      · rw [List.getElem?_eq_none (by simp; omega)] at hl; cases hl
    rw [this] at hl; simp at hl
    exact ⟨by omega, hl.symm⟩

theorem dead_of {o : AObj} (h : o.alive = false) : o = .dead := by cases o <;> simp_all [AObj.alive]

/-- A new object, in new blocks. -/
theorem MRel.push {B : Base} {m : Mem} {w w' : World} (h : MRel Φ ρ μ B m w) {o : AObj} {l : Loc} (hw : ∀ b, b < w.heap.size → w'.heap[b]? = w.heap[b]?) (hs : w.heap.size ≤ w'.heap.size)
    (hos : w'.os = w.os ∧ w'.tape = w.tape ∧ w'.output = w.output) (hown : ∀ b ∈ l.own, w.heap.size ≤ b ∧ b < w'.heap.size) (hok : ObjOK Φ ρ (μ ++ [l]) w' l o) :
    MRel Φ ρ (μ ++ [l]) B (m.new o).2 w' := by
  have oldo : ∀ {i : Nat} {x : AObj}, i < μ.length → (m.o ++ [o])[i]? = some x → m.o[i]? = some x := by
    intro i x hi ho
    rwa [List.getElem?_append_left (by rw [← h.len]; exact hi)] at ho
  have lasto : ∀ {x : AObj}, (m.o ++ [o])[μ.length]? = some x → x = o := by
    intro x hx
    rw [h.len, List.getElem?_append_right (Nat.le_refl _)] at hx
    simpa using hx.symm
  constructor
  · simp [Mem.new, h.len]
  · have := h.kle; simp [Mem.new]; omega
  · intro i j oi oj li lj b hi hj he ha hli hlj hbi hbj
    rcases get_last hli with ⟨ki, hil⟩ | ⟨rfl, rfl⟩ <;> rcases get_last hlj with ⟨kj, hjl⟩ | ⟨rfl, rfl⟩
    · exact h.apart i j oi oj li lj b (oldo hil hi) (oldo hjl hj) he ha ki kj hbi hbj
    · have := h.lt i oi li (oldo hil hi) (AObj.excl_alive he) ki b hbi; have := (hown b hbj).1; omega
    · have := h.lt j oj lj (oldo hjl hj) ha kj b hbj; have := (hown b hbi).1; omega
    · rfl
  · intro i x l' hx hl
    rcases get_last hl with ⟨hl, hil⟩ | ⟨rfl, rfl⟩
    · cases hal : x.alive with
      | false => rw [dead_of hal]; trivial
      | true => exact ((h.obj i x l' (oldo hil hx) hl).of_heap fun b hb => hw b (h.lt i x l' (oldo hil hx) hal hl b hb)).more
    · rw [lasto hx]; exact hok
  · intro i x l' hx ha hl b hb
    rcases get_last hl with ⟨hl, hil⟩ | ⟨rfl, rfl⟩
    · exact Nat.lt_of_lt_of_le (h.lt i x l' (oldo hil hx) ha hl b hb) hs
    · exact (hown b hb).2
  · intro b hb hn
    rw [hw b (Nat.lt_of_lt_of_le hb h.sz)]
    exact h.fr b hb fun i l' hi hk hl => hn i l' hi hk (get_app hl)
  · intro i l' b hi hl hb
    rcases get_last hl with ⟨hl, hil⟩ | ⟨rfl, rfl⟩
    · rcases h.new i l' b hi hl hb with h1 | ⟨j, lj, h1, h2, h3, h4⟩
      · exact .inl h1
      · exact .inr ⟨j, lj, h1, h2, get_app h3, h4⟩
    · exact .inl (Nat.le_trans h.sz (hown b hb).1)
  · intro i j x li lj b hi hik hjk hj hx ha hli hlj hbi
    have hjl : j < μ.length := by have := h.kle; rw [h.len]; omega
    have hil : i < μ.length := by have := h.kle; rw [h.len]; omega
    rw [List.getElem?_append_left hil] at hli
    rw [List.getElem?_append_left hjl] at hlj
    exact h.wap i j x li lj b hi hik hjk hj (oldo hjl hx) ha hli hlj hbi
  · exact Nat.le_trans h.sz hs
  · exact ⟨hos.1.trans h.os.1, hos.2.1.trans h.os.2.1, hos.2.2.trans h.os.2.2⟩

/-- An object is written, where it lies (or it is gone). -/
theorem MRel.upd {B : Base} {m : Mem} {w w' : World} (h : MRel Φ ρ μ B m w) {id : Nat} {l : Loc} {o o' : AObj} (ho : m.o[id]? = some o) (he : o.excl = true) (hl : μ[id]? = some l)
    (hw : ∀ b, b < w.heap.size → b ∉ l.own → w'.heap[b]? = w.heap[b]?) (hs : w.heap.size ≤ w'.heap.size) (hos : w'.os = w.os ∧ w'.tape = w.tape ∧ w'.output = w.output)
    (hx : o'.excl = true ∨ o' = .dead) (hok : ObjOK Φ ρ μ w' l o') : MRel Φ ρ μ B { m with o := m.o.set id o', wr := id :: m.wr } w' := by
  have hid : id < m.o.length := (List.getElem?_eq_some_iff.1 ho).1
  have getset : ∀ {i : Nat} {x : AObj}, (m.o.set id o')[i]? = some x → (i = id ∧ x = o') ∨ (i ≠ id ∧ m.o[i]? = some x) := by
    intro i x h'
    by_cases e : id = i
    · subst e; rw [List.getElem?_set_self hid] at h'; left; exact ⟨rfl, by simpa using h'.symm⟩
    · rw [List.getElem?_set_ne e] at h'; right; exact ⟨fun e' => e e'.symm, h'⟩
  have live := AObj.excl_alive he
  have was : ∀ {i : Nat} {x : AObj}, (m.o.set id o')[i]? = some x → x.alive = true → ∃ y, m.o[i]? = some y ∧ y.alive = true := by
    intro i x hx ha
    rcases getset hx with ⟨rfl, _⟩ | ⟨_, hx⟩
    · exact ⟨o, ho, live⟩
    · exact ⟨x, hx, ha⟩
  constructor
  · simp [h.len]
  · simpa using h.kle
  · intro i j oi oj li lj b hi hj hei ha hli hlj hbi hbj
    obtain ⟨y, hy, hya⟩ := was hj ha
    rcases getset hi with ⟨rfl, rfl⟩ | ⟨hne, hi⟩
    · exact h.apart i j o y li lj b ho hy he hya hli hlj hbi hbj
    · exact h.apart i j oi y li lj b hi hy hei hya hli hlj hbi hbj
  · intro i x l' hx' hl'
    rcases getset hx' with ⟨rfl, rfl⟩ | ⟨hne, hx'⟩
    · rw [hl] at hl'; cases hl'; exact hok
    · cases hal : x.alive with
      | false => rw [dead_of hal]; trivial
      | true =>
        refine (h.obj i x l' hx' hl').of_heap fun b hb => hw b (h.lt i x l' hx' hal hl' b hb) fun hbl => ?_
        exact hne (h.apart id i o x l l' b ho hx' he hal hl hl' hbl hb).symm
  · intro i x l' hx' ha hl' b hb
    obtain ⟨y, hy, hya⟩ := was hx' ha
    exact Nat.lt_of_lt_of_le (h.lt i y l' hy hya hl' b hb) hs
  · intro b hb hn
    have hbw := Nat.lt_of_lt_of_le hb h.sz
    by_cases hbl : b ∈ l.own
    · by_cases hk : id < B.k
      · exact absurd hbl (hn id l (List.mem_cons_self ..) hk hl)
      · rcases h.new id l b (Nat.le_of_not_lt hk) hl hbl with h1 | ⟨j, lj, h1, h2, h3, h4⟩
        · omega
        · exact absurd h4 (hn j lj (List.mem_cons_of_mem _ h1) h2 h3)
    · rw [hw b hbw hbl]
      exact h.fr b hb fun i l' hi hk hl' => hn i l' (List.mem_cons_of_mem _ hi) hk hl'
  · intro i l' b hi hl' hb
    rcases h.new i l' b hi hl' hb with h1 | ⟨j, lj, h1, h2, h3, h4⟩
    · exact .inl h1
    · exact .inr ⟨j, lj, List.mem_cons_of_mem _ h1, h2, h3, h4⟩
  · intro i j x li lj b hi hik hjk hj hx' ha hli hlj hbi hbj
    have hj' : j ∉ m.wr := fun e => hj (List.mem_cons_of_mem _ e)
    have hne : j ≠ id := fun e => hj (e ▸ List.mem_cons_self ..)
    rcases getset hx' with ⟨e, _⟩ | ⟨_, hx2⟩
    · exact hne e
    · rcases List.mem_cons.1 hi with rfl | hi
      · exact hne (h.apart i j o x li lj b ho hx2 he ha hli hlj hbi hbj).symm
      · exact h.wap i j x li lj b hi hik hjk hj' hx2 ha hli hlj hbi hbj
  · exact Nat.le_trans h.sz hs
  · exact ⟨hos.1.trans h.os.1, hos.2.1.trans h.os.2.1, hos.2.2.trans h.os.2.2⟩

/-- What an object is becomes a new one: its blocks are handed on, and new ones may come. -/
theorem MRel.move {B : Base} {m : Mem} {w w' : World} (h : MRel Φ ρ μ B m w) {id : Nat} {l l' : Loc} {o o' : AObj} (ho : m.o[id]? = some o) (he : o.excl = true) (hl : μ[id]? = some l)
    (hw : ∀ b, b < w.heap.size → b ∉ l.own → w'.heap[b]? = w.heap[b]?) (hs : w.heap.size ≤ w'.heap.size) (hos : w'.os = w.os ∧ w'.tape = w.tape ∧ w'.output = w.output)
    (hown : ∀ b ∈ l'.own, (b ∈ l.own ∨ w.heap.size ≤ b) ∧ b < w'.heap.size) (hok : ObjOK Φ ρ (μ ++ [l']) w' l' o') :
    MRel Φ ρ (μ ++ [l']) B { m with o := m.o.set id .dead ++ [o'], wr := m.o.length :: id :: m.wr } w' := by
  have h1 : MRel Φ ρ μ B { m with o := m.o.set id .dead, wr := id :: m.wr } w' := h.upd ho he hl hw hs hos (.inr rfl) trivial
  have hid : id < m.o.length := (List.getElem?_eq_some_iff.1 ho).1
  have hlen : (m.o.set id AObj.dead).length = μ.length := by simp [h.len]
  have oldo : ∀ {i : Nat} {x : AObj}, i < μ.length → (m.o.set id .dead ++ [o'])[i]? = some x → (m.o.set id AObj.dead)[i]? = some x := by
    intro i x hi hx
    rwa [List.getElem?_append_left (by rw [hlen]; exact hi)] at hx
  have lasto : ∀ {x : AObj}, (m.o.set id .dead ++ [o'])[μ.length]? = some x → x = o' := by
    intro x hx
    rw [← hlen, List.getElem?_append_right (Nat.le_refl _)] at hx
    simpa using hx.symm
  have far : ∀ {j : Nat} {x : AObj} {lj : Loc} {b : Nat}, (m.o.set id AObj.dead)[j]? = some x → x.alive = true → μ[j]? = some lj → b ∈ lj.own → b ∈ l'.own → False := by
    intro j x lj b hx ha hlj hb hb'
    have hne : id ≠ j := fun e => by
      subst e; rw [List.getElem?_set_self hid] at hx; simp at hx; subst hx; simp [AObj.alive] at ha
    rw [List.getElem?_set_ne hne] at hx
    rcases (hown b hb').1 with h2 | h2
    · exact hne (h.apart id j o x l lj b ho hx he ha hl hlj h2 hb)
    · have := h.lt j x lj hx ha hlj b hb; omega
  constructor
  · simp [h.len]
  · have := h.kle; simp; omega
  · intro i j oi oj li lj b hi hj hei ha hli hlj hbi hbj
    rcases get_last hli with ⟨ki, hil⟩ | ⟨rfl, rfl⟩ <;> rcases get_last hlj with ⟨kj, hjl⟩ | ⟨rfl, rfl⟩
    · exact h1.apart i j oi oj li lj b (oldo hil hi) (oldo hjl hj) hei ha ki kj hbi hbj
    · exact (far (oldo hil hi) (AObj.excl_alive hei) ki hbi hbj).elim
    · exact (far (oldo hjl hj) ha kj hbj hbi).elim
    · rfl
  · intro i x l2 hx hl2
    rcases get_last hl2 with ⟨hl2, hil⟩ | ⟨rfl, rfl⟩
    · exact (h1.obj i x l2 (oldo hil hx) hl2).more
    · rw [lasto hx]; exact hok
  · intro i x l2 hx ha hl2 b hb
    rcases get_last hl2 with ⟨hl2, hil⟩ | ⟨rfl, rfl⟩
    · exact h1.lt i x l2 (oldo hil hx) ha hl2 b hb
    · exact (hown b hb).2
  · intro b hb hn
    exact h1.fr b hb fun i l2 hi hk hl2 => hn i l2 (List.mem_cons_of_mem _ hi) hk (get_app hl2)
  · intro i l2 b hi hl2 hb
    rcases get_last hl2 with ⟨hl2, hil⟩ | ⟨rfl, rfl⟩
    · rcases h1.new i l2 b hi hl2 hb with h2 | ⟨j, lj, h2, h3, h4, h5⟩
      · exact .inl h2
      · exact .inr ⟨j, lj, List.mem_cons_of_mem _ h2, h3, get_app h4, h5⟩
    · rcases (hown b hb).1 with h2 | h2
      · by_cases hk : id < B.k
        · exact .inr ⟨id, l, by simp, hk, get_app hl, h2⟩
        · rcases h1.new id l b (Nat.le_of_not_lt hk) hl h2 with h3 | ⟨j, lj, h3, h4, h5, h6⟩
          · exact .inl h3
          · exact .inr ⟨j, lj, List.mem_cons_of_mem _ h3, h4, get_app h5, h6⟩
      · exact .inl (Nat.le_trans h.sz h2)
  · intro i j x li lj b hi hik hjk hj hx ha hli hlj hbi
    have hkl := h.kle
    have hjl : j < μ.length := by rw [h.len]; omega
    have hil : i < μ.length := by rw [h.len]; omega
    rw [List.getElem?_append_left hil] at hli
    rw [List.getElem?_append_left hjl] at hlj
    have hi' : i ∈ id :: m.wr := by
      rcases List.mem_cons.1 hi with e | hi
      · rw [← h.len] at e; omega
      · exact hi
    exact h1.wap i j x li lj b hi' hik hjk (fun e => hj (List.mem_cons_of_mem _ e)) (oldo hjl hx) ha hli hlj hbi
  · exact h1.sz
  · exact h1.os

theorem heap_alloc_lt (w : World) (o : Obj) {k : Nat} (h : k < w.heap.size) : (w.alloc o).heap[k]? = w.heap[k]? := RowKit.Below.heap_alloc w o k h
theorem setRow_heap_other (w : World) (g : Nat) (cs : Array Value) {k : Nat} (h : k ≠ g) : (w.setRow g cs).heap[k]? = w.heap[k]? := by
  simp only [World.setRow, Array.getElem?_modify]
  rw [if_neg (by omega)]
theorem setRow_size (w : World) (g : Nat) (cs : Array Value) : (w.setRow g cs).heap.size = w.heap.size := by simp [World.setRow]

/-- A new object of cells. -/
theorem MRel.newCells {B : Base} {m : Mem} {w : World} (h : MRel Φ ρ μ B m w) (cs : List CV) (vs : List Value) (ty : TypeId) (hv : denL Φ ρ μ cs = some vs) :
    MRel Φ ρ (μ ++ [⟨w.heap.size, 0, 0, 0, false, [w.heap.size]⟩]) B (m.new (.cells cs ty)).2 (w.alloc (.cells vs.toArray ty)) := by
  have hsz : (w.alloc (.cells vs.toArray ty)).heap.size = w.heap.size + 1 := World.size_alloc ..
  refine h.push (o := .cells cs ty) (fun b hb => heap_alloc_lt w _ hb) (by omega) ⟨rfl, rfl, rfl⟩ (by simp) ⟨rfl, rfl, rfl, vs, denL_mono hv, ?_⟩
  show (w.heap.push _)[w.heap.size]? = _
  simp

/-- The cells of an object are written. -/
theorem MRel.setCells {B : Base} {m : Mem} {w : World} (h : MRel Φ ρ μ B m w) {id : Nat} {l : Loc} {cs : List CV} {ty : TypeId} {cs' : List CV} {vs' : List Value}
    (ho : m.o[id]? = some (.cells cs ty)) (hl : μ[id]? = some l) (hv : denL Φ ρ μ cs' = some vs') :
    MRel Φ ρ μ B { m with o := m.o.set id (.cells cs' ty), wr := id :: m.wr } (w.setRow l.blk vs'.toArray) := by
  obtain ⟨hb0, hs0, hown, vs, hvs, hh⟩ := h.obj id _ l ho hl
  refine h.upd ho rfl hl (fun b hb hne => setRow_heap_other w _ _ (fun e => hne (by rw [hown, e]; simp))) (by rw [setRow_size]; exact Nat.le_refl _) ⟨rfl, rfl, rfl⟩ (.inl rfl) ?_
  exact ⟨hb0, hs0, hown, vs', hv, setRow_heap w l.blk _ _ ty _ hh⟩
end
end Go.SF
