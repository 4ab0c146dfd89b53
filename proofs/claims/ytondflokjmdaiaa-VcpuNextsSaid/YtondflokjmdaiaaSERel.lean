/- What values and objects stand for, when more objects come, or one is written. -/
import Derived.Test.YtondflokjmdaiaaSEExpr
import Derived.Laws.CopyRow
namespace Go.SE
set_option linter.unusedVariables false
set_option linter.unusedSimpArgs false

section
variable {D : Type} {Φ : Sig D} {ρ : Env D} {μ ν : List Loc}

theorem get_app {i : Nat} {l : Loc} (h : μ[i]? = some l) : (μ ++ ν)[i]? = some l := by
  have := (List.getElem?_eq_some_iff.1 h).1
  rw [List.getElem?_append_left this]; exact h

theorem denPt_mono {p : Pt} {a : Addr} (h : denPt Φ ρ μ p = some a) : denPt Φ ρ (μ ++ ν) p = some a := by
  unfold denPt at *
  cases hl : μ[p.id]? with
  | none => rw [hl] at h; cases h
  | some l => rw [hl] at h; rw [get_app hl]; exact h

theorem denPts_mono : ∀ {ps : List Pt} {vs : List Value}, denPts Φ ρ μ ps = some vs → denPts Φ ρ (μ ++ ν) ps = some vs
  | [], vs, h => h
  | p :: ps, vs, h => by
    simp only [denPts] at h ⊢
    cases h1 : denPt Φ ρ μ p with
    | none => rw [h1] at h; cases h
    | some a =>
      cases h2 : denPts Φ ρ μ ps with
      | none => rw [h1, h2] at h; cases h
      | some us => rw [h1, h2] at h; rw [denPt_mono h1, denPts_mono h2]; exact h

theorem denC_mono {c : CV} {v : Value} (h : denC Φ ρ μ c = some v) : denC Φ ρ (μ ++ ν) c = some v := by
  cases c with
  | p a => cases a with
    | none => exact h
    | some p =>
      simp only [denC, Option.map_eq_some_iff] at h ⊢
      obtain ⟨a, ha, rfl⟩ := h
      exact ⟨a, denPt_mono ha, rfl⟩
  | sl a len cap => cases a with
    | none => exact h
    | some q =>
      obtain ⟨id, r⟩ := q
      simp only [denC] at h ⊢
      split at h
      · rename_i hc
        rw [if_pos hc]
        simp only [Option.map_eq_some_iff] at h ⊢
        obtain ⟨a, ha, rfl⟩ := h
        exact ⟨a, denPt_mono ha, rfl⟩
      · cases h
  | m a => cases a with
    | none => exact h
    | some id =>
      simp only [denC, Option.map_eq_some_iff] at h ⊢
      obtain ⟨a, ha, rfl⟩ := h
      exact ⟨a, get_app ha, rfl⟩
  | ch a => cases a with
    | none => exact h
    | some id =>
      simp only [denC, Option.map_eq_some_iff] at h ⊢
      obtain ⟨a, ha, rfl⟩ := h
      exact ⟨a, get_app ha, rfl⟩
  | fn f caps =>
    simp only [denC, Option.map_eq_some_iff] at h ⊢
    obtain ⟨a, ha, rfl⟩ := h
    exact ⟨a, denPts_mono ha, rfl⟩
  | b x => exact h
  | i k x => exact h
  | s x => exact h
  | nilfn => exact h

theorem denL_mono : ∀ {cs : List CV} {vs : List Value}, denL Φ ρ μ cs = some vs → denL Φ ρ (μ ++ ν) cs = some vs
  | [], vs, h => h
  | c :: cs, vs, h => by
    simp only [denL] at h ⊢
    cases h1 : denC Φ ρ μ c with
    | none => rw [h1] at h; cases h
    | some a =>
      cases h2 : denL Φ ρ μ cs with
      | none => rw [h1, h2] at h; cases h
      | some us => rw [h1, h2] at h; rw [denC_mono h1, denL_mono h2]; exact h

theorem denT_mono : ∀ {cs : List (CV ⊕ List CV)} {vs : List Value}, denT Φ ρ μ cs = some vs → denT Φ ρ (μ ++ ν) cs = some vs
  | [], vs, h => h
  | .inl c :: cs, vs, h => by
    simp only [denT] at h ⊢
    cases h1 : denC Φ ρ μ c with
    | none => rw [h1] at h; cases h
    | some a =>
      cases h2 : denT Φ ρ μ cs with
      | none => rw [h1, h2] at h; cases h
      | some us => rw [h1, h2] at h; rw [denC_mono h1, denT_mono h2]; exact h
  | .inr c :: cs, vs, h => by
    simp only [denT] at h ⊢
    cases h1 : denL Φ ρ μ c with
    | none => rw [h1] at h; cases h
    | some a =>
      cases h2 : denT Φ ρ μ cs with
      | none => rw [h1, h2] at h; cases h
      | some us => rw [h1, h2] at h; rw [denL_mono h1, denT_mono h2]; exact h

theorem den_mono {v : AV} {x : Value} (h : den Φ ρ μ v = some x) : den Φ ρ (μ ++ ν) v = some x := by
  cases v with
  | cv c => exact denC_mono h
  | agg cs =>
    simp only [den, Option.map_eq_some_iff] at h ⊢
    obtain ⟨a, ha, rfl⟩ := h
    exact ⟨a, denL_mono ha, rfl⟩
  | tup cs =>
    simp only [den, Option.map_eq_some_iff] at h ⊢
    obtain ⟨a, ha, rfl⟩ := h
    exact ⟨a, denT_mono ha, rfl⟩

theorem TRel.mono {n : Nat} {t : List (Nat × AV)} {a : Act} (h : TRel Φ ρ μ n t a) : TRel Φ ρ (μ ++ ν) n t a :=
  ⟨h.sz, fun u v hv => ⟨(h.tm u v hv).1, den_mono (h.tm u v hv).2⟩, h.df⟩

theorem denL_length : ∀ {cs : List CV} {vs : List Value}, denL Φ ρ μ cs = some vs → vs.length = cs.length
  | [], vs, h => by simp [denL] at h; subst h; rfl
  | c :: cs, vs, h => by
    simp only [denL] at h
    cases h1 : denC Φ ρ μ c with
    | none => rw [h1] at h; cases h
    | some a =>
      cases h2 : denL Φ ρ μ cs with
      | none => rw [h1, h2] at h; cases h
      | some us => rw [h1, h2] at h; simp at h; subst h; simp [denL_length h2]

/-- Cell by cell. -/
theorem denL_iff : ∀ {cs : List CV} {vs : List Value}, denL Φ ρ μ cs = some vs ↔ (vs.length = cs.length ∧ ∀ (i : Nat) (c : CV) (v : Value), cs[i]? = some c → vs[i]? = some v → denC Φ ρ μ c = some v)
  | [], vs => by
    constructor
    · intro h; simp [denL] at h; subst h; simp
    · rintro ⟨h, _⟩; have : vs = [] := List.eq_nil_of_length_eq_zero h; subst this; rfl
  | c :: cs, [] => by
    constructor
    · intro h; have := denL_length h; simp at this
    · rintro ⟨h, _⟩; simp at h
  | c :: cs, v :: vs => by
    have ih := @denL_iff cs vs
    constructor
    · intro h
      have hl := denL_length h
      simp only [denL] at h
      cases h1 : denC Φ ρ μ c with
      | none => rw [h1] at h; cases h
      | some a =>
        cases h2 : denL Φ ρ μ cs with
        | none => rw [h1, h2] at h; cases h
        | some us =>
          rw [h1, h2] at h
          simp at h
          obtain ⟨rfl, rfl⟩ := h
          refine ⟨hl, fun i d u hd hu => ?_⟩
          cases i with
          | zero => simp at hd hu; subst hd; subst hu; exact h1
          | succ i => simp at hd hu; exact (ih.1 h2).2 i d u hd hu
    · rintro ⟨hl, h⟩
      have h1 := h 0 c v (by simp) (by simp)
      have h2 : denL Φ ρ μ cs = some vs := ih.2 ⟨by simpa using hl, fun i d u hd hu => h (i + 1) d u (by simpa using hd) (by simpa using hu)⟩
      simp [denL, h1, h2]

theorem denC_one {c : CV} {v : Value} (h : denC Φ ρ μ c = some v) : v.oneCell' = true := by
  cases c with
  | p a => cases a with
    | none => simp [denC] at h; subst h; rfl
    | some p => simp only [denC, Option.map_eq_some_iff] at h; obtain ⟨a, _, rfl⟩ := h; rfl
  | sl a len cap => cases a with
    | none => simp only [denC] at h; split at h <;> simp at h; subst h; rfl
    | some q =>
      obtain ⟨id, r⟩ := q
      simp only [denC] at h
      split at h
      · simp only [Option.map_eq_some_iff] at h; obtain ⟨a, _, rfl⟩ := h; rfl
      · cases h
  | m a => cases a with
    | none => simp [denC] at h; subst h; rfl
    | some id => simp only [denC, Option.map_eq_some_iff] at h; obtain ⟨a, _, rfl⟩ := h; rfl
  | ch a => cases a with
    | none => simp [denC] at h; subst h; rfl
    | some id => simp only [denC, Option.map_eq_some_iff] at h; obtain ⟨a, _, rfl⟩ := h; rfl
  | fn f caps => simp only [denC, Option.map_eq_some_iff] at h; obtain ⟨a, _, rfl⟩ := h; rfl
  | b x => simp [denC] at h; subst h; rfl
  | i k x => simp [denC] at h; subst h; rfl
  | s x => simp [denC] at h; subst h; rfl
  | nilfn => simp [denC] at h; subst h; rfl

theorem denC_cells {c : CV} {v : Value} (h : denC Φ ρ μ c = some v) : v.cells = #[v] := by
  have := denC_one h
  cases v <;> simp_all [Value.cells, Value.oneCell']

/-- The cells of a value that is no tuple. -/
theorem den_cells {v : AV} {x : Value} (h : den Φ ρ μ v = some x) (hv : ∀ vs, v ≠ .tup vs) : denL Φ ρ μ v.cells = some x.cells.toList := by
  cases v with
  | cv c => simp only [den] at h; simp [AV.cells, denL, h, denC_cells h]
  | agg cs =>
    simp only [den, Option.map_eq_some_iff] at h
    obtain ⟨a, ha, rfl⟩ := h
    simpa [AV.cells, Value.cells] using ha
  | tup vs => exact absurd rfl (hv vs)

/-! ### objects when more come -/
theorem ObjOK.mono {w w' : World} {l : Loc} {o : AObj} (h : ObjOK Φ ρ μ w l o) (hb : w'.heap[l.blk]? = w.heap[l.blk]?) (hs : w.heap.size ≤ w'.heap.size) : ObjOK Φ ρ (μ ++ ν) w' l o := by
  cases o with
  | cells cs ty =>
    obtain ⟨h1, h2, vs, hv, hh⟩ := h
    exact ⟨h1, h2, vs, denL_mono hv, by rw [hb]; exact hh⟩
  | ext A ks =>
    obtain ⟨h1, h2, h3⟩ := h
    refine ⟨h1, by omega, fun r row hr => ⟨(h3 r row hr).1, fun j k n hk hn => ?_⟩⟩
    rw [World.cell?_of_block (w := w) hb]
    exact (h3 r row hr).2 j k n hk hn
  | dead => trivial

theorem heap_alloc_lt (w : World) (o : Obj) {k : Nat} (h : k < w.heap.size) : (w.alloc o).heap[k]? = w.heap[k]? := RowKit.Below.heap_alloc w o k h

theorem MRel.new {w0 : World} {m : Mem} {w : World} (h : MRel Φ ρ μ w0 m w) (cs : List CV) (vs : List Value) (ty : TypeId) (hv : denL Φ ρ μ cs = some vs) :
    MRel Φ ρ (μ ++ [⟨w.heap.size, 0, 0⟩]) w0 (m.new (.cells cs ty)).2 (w.alloc (.cells vs.toArray ty)) := by
  have hsz : (w.alloc (.cells vs.toArray ty)).heap.size = w.heap.size + 1 := World.size_alloc ..
  have split : ∀ {i : Nat} {l : Loc}, (μ ++ [⟨w.heap.size, 0, 0⟩])[i]? = some l → (μ[i]? = some l ∧ i < μ.length) ∨ (i = μ.length ∧ l = ⟨w.heap.size, 0, 0⟩) := by
    intro i l hl
    rcases Nat.lt_or_ge i μ.length with hi | hi
    · left; rw [List.getElem?_append_left hi] at hl; exact ⟨hl, hi⟩
    · right
      rw [List.getElem?_append_right hi] at hl
      have : i - μ.length = 0 := by
        rcases Nat.eq_zero_or_pos (i - μ.length) with h0 | h0
        · exact h0
        · rw [List.getElem?_eq_none (by simp; omega)] at hl; cases hl
      rw [this] at hl; simp at hl
      exact ⟨by omega, hl.symm⟩
  have oldo : ∀ {i : Nat} {o : AObj}, i < μ.length → (m.o ++ [AObj.cells cs ty])[i]? = some o → m.o[i]? = some o := by
    intro i o hi ho
    rwa [List.getElem?_append_left (by rw [← h.len]; exact hi)] at ho
  refine ⟨by simp [Mem.new, h.len], ?_, ?_, ?_, by rw [hsz]; have := h.sz; omega, h.os, ?_, ?_, ?_⟩
  · intro i j cs' ty' o li lj ho hoj hal hi hj hb
    rcases split hi with ⟨hi, hil⟩ | ⟨rfl, rfl⟩ <;> rcases split hj with ⟨hj, hjl⟩ | ⟨rfl, rfl⟩
    · exact h.apart i j cs' ty' o li lj (oldo hil ho) (oldo hjl hoj) hal hi hj hb
    · have := h.lt i _ li (oldo hil ho) rfl hi; simp at hb; omega
    · have := h.lt j o lj (oldo hjl hoj) hal hj; simp at hb; omega
    · rfl
  · intro i o l ho hl
    rcases split hl with ⟨hl, hil⟩ | ⟨rfl, rfl⟩
    · cases hal : o.alive with
      | false => cases o <;> simp [AObj.alive] at hal; trivial
      | true => exact (h.obj i o l (oldo hil ho) hl).mono (heap_alloc_lt _ _ (h.lt i o l (oldo hil ho) hal hl)) (by rw [hsz]; omega)
    · have : o = .cells cs ty := by
        simp only [Mem.new] at ho
        rw [h.len, List.getElem?_append_right (Nat.le_refl _)] at ho
        simpa using ho.symm
      subst this
      exact ⟨rfl, rfl, vs, denL_mono hv, by show (w.heap.push _)[w.heap.size]? = _; simp⟩
  · intro b hb hw
    have hbl : b < w.heap.size := Nat.lt_of_lt_of_le hb h.sz
    rw [heap_alloc_lt _ _ hbl]
    refine h.fr b hb fun i l hi hl => hw i l hi (get_app hl)
  · intro i o l ho hal hl
    rcases split hl with ⟨hl, hil⟩ | ⟨rfl, rfl⟩
    · have := h.lt i o l (oldo hil ho) hal hl; rw [hsz]; omega
    · rw [hsz]; simp
  · intro i j o li lj hi hj ho hal hil hjl
    have hi' : i ∈ m.wr := hi
    have hiw := h.wlt i hi'
    rcases split hil with ⟨hil, hilt⟩ | ⟨rfl, rfl⟩
    · rcases split hjl with ⟨hjl, hjlt⟩ | ⟨rfl, rfl⟩
      · exact h.wap i j o li lj hi' hj (oldo hjlt ho) hal hil hjl
      · have := hiw.2 li hil; simp; omega
    · rw [h.len] at hiw; omega
  · intro i hi
    have hiw := h.wlt i hi
    refine ⟨by simp [Mem.new]; omega, fun l hl => ?_⟩
    rcases split hl with ⟨hl, _⟩ | ⟨rfl, rfl⟩
    · have := hiw.2 l hl; rw [hsz]; omega
    · rw [hsz]; simp

theorem putCells_length : ∀ (cs : List CV) (off : Nat) (ds : List CV), (putCells cs off ds).length = cs.length
  | cs, off, [] => rfl
  | cs, off, d :: ds => by simp [putCells, putCells_length]

theorem putCells_eq : ∀ (cs : List CV) (off : Nat) (ds : List CV), off + ds.length ≤ cs.length → putCells cs off ds = cs.take off ++ ds ++ cs.drop (off + ds.length)
  | cs, off, [], h => by simp [putCells]
  | cs, off, d :: ds, h => by
    have h' : off + (ds.length + 1) ≤ cs.length := by simpa using h
    rw [putCells, putCells_eq (cs.set off d) (off + 1) ds (by simp; omega)]
    have e1 : (cs.set off d).take (off + 1) = cs.take off ++ [d] := by
      apply List.ext_getElem?
      intro j
      simp only [List.getElem?_take, List.getElem?_set, List.getElem?_append, List.length_take]
      by_cases hj : j < off
      · have : min off cs.length = off := by omega
        simp [hj, this, Nat.ne_of_gt hj]; omega
      · by_cases hj2 : j = off
        · subst hj2
          have : min j cs.length = j := by omega
          have hjl : j < cs.length := by omega
          simp [this, hjl]
        · have : min off cs.length = off := by omega
          have h3 : ¬ j < off + 1 := by omega
          simp [hj, this, h3]; omega
    have e2 : (cs.set off d).drop (off + 1 + ds.length) = cs.drop (off + (ds.length + 1)) := by
      apply List.ext_getElem?
      intro j
      simp only [List.getElem?_drop, List.getElem?_set]
      have : ¬ off = off + 1 + ds.length + j := by omega
      simp [this]; congr 1; omega
    rw [e1, e2]
    simp

theorem denL_app : ∀ {a b : List CV} {u v : List Value}, denL Φ ρ μ a = some u → denL Φ ρ μ b = some v → denL Φ ρ μ (a ++ b) = some (u ++ v)
  | [], b, u, v, h, k => by simp [denL] at h; subst h; simpa using k
  | c :: a, b, u, v, h, k => by
    simp only [denL] at h
    cases h1 : denC Φ ρ μ c with
    | none => rw [h1] at h; cases h
    | some x =>
      cases h2 : denL Φ ρ μ a with
      | none => rw [h1, h2] at h; cases h
      | some us =>
        rw [h1, h2] at h; simp at h; subst h
        simp [denL, h1, denL_app h2 k]

theorem denL_take {cs : List CV} {vs : List Value} (n : Nat) (h : denL Φ ρ μ cs = some vs) : denL Φ ρ μ (cs.take n) = some (vs.take n) := by
  rw [denL_iff] at h ⊢
  refine ⟨by simp [h.1], fun i c v hc hv => ?_⟩
  rw [List.getElem?_take] at hc hv
  split at hc
  · rename_i hi; rw [if_pos hi] at hv; exact h.2 i c v hc hv
  · cases hc
theorem denL_drop {cs : List CV} {vs : List Value} (n : Nat) (h : denL Φ ρ μ cs = some vs) : denL Φ ρ μ (cs.drop n) = some (vs.drop n) := by
  rw [denL_iff] at h ⊢
  refine ⟨by simp [h.1], fun i c v hc hv => ?_⟩
  rw [List.getElem?_drop] at hc hv
  exact h.2 _ c v hc hv

theorem denL_put {cs ds : List CV} {vs us : List Value} (off : Nat) (hl : off + ds.length ≤ cs.length) (h : denL Φ ρ μ cs = some vs) (k : denL Φ ρ μ ds = some us) :
    denL Φ ρ μ (putCells cs off ds) = some (vs.take off ++ us ++ vs.drop (off + us.length)) := by
  rw [putCells_eq _ _ _ hl, denL_length k]
  exact denL_app (denL_app (denL_take _ h) k) (denL_drop _ h)

theorem setRow_heap_other (w : World) (g : Nat) (cs : Array Value) {k : Nat} (h : k ≠ g) : (w.setRow g cs).heap[k]? = w.heap[k]? := by
  simp only [World.setRow, Array.getElem?_modify]
  rw [if_neg (by omega)]
theorem setRow_size (w : World) (g : Nat) (cs : Array Value) : (w.setRow g cs).heap.size = w.heap.size := by simp [World.setRow]

theorem MRel.set {w0 : World} {m : Mem} {w : World} (h : MRel Φ ρ μ w0 m w) {id : Nat} {l : Loc} {cs : List CV} {ty : TypeId} {cs' : List CV} {vs' : List Value}
    (ho : m.o[id]? = some (.cells cs ty)) (hl : μ[id]? = some l) (hv : denL Φ ρ μ cs' = some vs') :
    MRel Φ ρ μ w0 { o := m.o.set id (.cells cs' ty), wr := id :: m.wr } (w.setRow l.blk vs'.toArray) := by
  have hid : id < m.o.length := (List.getElem?_eq_some_iff.1 ho).1
  obtain ⟨hb0, hs0, vs, hvs, hh⟩ := h.obj id _ l ho hl
  have getset : ∀ {i : Nat} {o : AObj}, (m.o.set id (.cells cs' ty))[i]? = some o → (i = id ∧ o = .cells cs' ty) ∨ (i ≠ id ∧ m.o[i]? = some o) := by
    intro i o h'
    by_cases e : id = i
    · subst e; rw [List.getElem?_set_self hid] at h'; left; exact ⟨rfl, by simpa using h'.symm⟩
    · rw [List.getElem?_set_ne e] at h'; right; exact ⟨fun e' => e e'.symm, h'⟩
  have hblk : l.blk < w.heap.size := h.lt id _ l ho rfl hl
  refine ⟨by simp [h.len], ?_, ?_, ?_, by rw [setRow_size]; exact h.sz, h.os, ?_, ?_, ?_⟩
  · intro i j cs2 ty2 o li lj ho2 hoj hal hi hj hb
    have hoj' : ∃ o', m.o[j]? = some o' ∧ o'.alive = true := by
      rcases getset hoj with ⟨rfl, _⟩ | ⟨_, hoj⟩
      · exact ⟨_, ho, rfl⟩
      · exact ⟨o, hoj, hal⟩
    obtain ⟨o', ho', hal'⟩ := hoj'
    rcases getset ho2 with ⟨rfl, e⟩ | ⟨hne, ho2⟩
    · exact h.apart i j cs ty o' li lj ho ho' hal' hi hj hb
    · exact h.apart i j cs2 ty2 o' li lj ho2 ho' hal' hi hj hb
  · intro i o l' ho2 hl'
    rcases getset ho2 with ⟨rfl, rfl⟩ | ⟨hne, ho2⟩
    · rw [hl] at hl'; cases hl'
      exact ⟨hb0, hs0, vs', hv, setRow_heap w l.blk _ _ ty _ hh⟩
    · cases hal : o.alive with
      | false => cases o <;> simp [AObj.alive] at hal; trivial
      | true =>
        have hbne : l'.blk ≠ l.blk := fun e => hne (h.apart id i cs ty o l l' ho ho2 hal hl hl' e.symm).symm
        have := (h.obj i o l' ho2 hl').mono (ν := []) (w' := w.setRow l.blk vs'.toArray) (setRow_heap_other w l.blk _ hbne) (by rw [setRow_size]; exact Nat.le_refl _)
        simpa using this
  · intro b hb hw
    have hne : b ≠ l.blk := fun e => hw id l (List.mem_cons_self ..) hl e.symm
    rw [setRow_heap_other w _ _ hne]
    exact h.fr b hb fun i l' hi hl' => hw i l' (List.mem_cons_of_mem _ hi) hl'
  · intro i o l' ho2 hal hl'
    rw [setRow_size]
    rcases getset ho2 with ⟨rfl, rfl⟩ | ⟨_, ho2⟩
    · rw [hl] at hl'; cases hl'; exact hblk
    · exact h.lt i o l' ho2 hal hl'
  · intro i j o li lj hi hj ho2 hal hil hjl
    have hjid : j ≠ id := fun e => hj (e ▸ List.mem_cons_self ..)
    have hjw : j ∉ m.wr := fun e => hj (List.mem_cons_of_mem _ e)
    rcases getset ho2 with ⟨e, _⟩ | ⟨_, ho3⟩
    · exact absurd e hjid
    · rcases List.mem_cons.1 hi with e | hi
      · subst e; intro e; exact hjid (h.apart i j cs ty o li lj ho ho3 hal hil hjl e).symm
      · exact h.wap i j o li lj hi hjw ho3 hal hil hjl
  · intro i hi
    rw [setRow_size]
    rcases List.mem_cons.1 hi with rfl | hi
    · exact ⟨by simpa using hid, fun l' hl' => by rw [hl] at hl'; cases hl'; exact hblk⟩
    · exact ⟨by simpa using (h.wlt i hi).1, (h.wlt i hi).2⟩
end
end Go.SE
