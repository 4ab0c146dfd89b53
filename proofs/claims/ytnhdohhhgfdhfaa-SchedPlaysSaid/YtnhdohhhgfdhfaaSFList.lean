/- Slices in a slice: a row is taken out as a table of its own, and put back. -/
import Derived.Test.YtnhdohhhgfdhfaaSFStep
namespace Go.SF
set_option linter.unusedVariables false
set_option linter.unusedSimpArgs false

section
variable {Φ : Sig} {ρ : Env} {μ : List Loc} {P : Program} {B : Base} {w : World} {s : St} {a : Act} {pc : List SB}

theorem RepLists.hole {k : List CK} {ety oty : TypeId} {A : Tab} {lm : Loc} {own : List Nat} (h : RepLists k ety oty A w lm own none) {r : Int} (h0 : 0 ≤ r) (hr : r < A.length) :
    ∃ lj, RepVec k ety (rowN k.length A r) w lj ∧ (∀ b ∈ lj.own, b ∈ own ∧ b ≠ lm.blk) ∧ w.cell? ⟨lm.blk, lm.base + r.toNat, none⟩ = some (vsVal lj 0 (rowN k.length A r).length lj.cap) ∧
      ∀ own', (∀ b, b ∈ own' ↔ b ∈ own ∧ b ∉ lj.own) → RepLists k ety oty A w lm own' (some (lj, r)) := by
  obtain ⟨h1, h2, h3, h4, h5, cs, ls, h6, h7, h8, h9, h10, h11⟩ := h
  have hrl : r.toNat < A.length := by omega
  have hA : A[r.toNat]? = some A[r.toNat] := List.getElem?_eq_getElem hrl
  have hl : ls[r.toNat]? = some (ls[r.toNat]'(by omega)) := List.getElem?_eq_getElem (by omega)
  obtain ⟨g1, g2⟩ := h10 _ _ _ hA hl
  obtain ⟨g3, g4⟩ := g2 (fun x hx => by cases hx)
  have hrow : rowN k.length A r = chunkN k.length A[r.toNat] := by unfold rowN; simp [List.getD, hA]
  refine ⟨ls[r.toNat]'(by omega), by rw [hrow]; exact g3, g4, ?_, fun own' ho => ?_⟩
  · simp only [World.cell?, h6, hrow]
    exact g1
  · refine ⟨h1, h2, (ho _).2 ⟨h3, fun hb => (g4 _ hb).2 rfl⟩, h4, h5, cs, ls, h6, h7, h8, fun x hx => ?_, fun i row li hi hli => ?_, fun i j li lj b hi hj hh hbi hbj => ?_⟩
    · simp at hx; subst hx; exact ⟨h0, hl⟩
    · obtain ⟨k1, k2⟩ := h10 i row li hi hli
      refine ⟨k1, fun hx => ?_⟩
      obtain ⟨k3, k4⟩ := k2 (fun x hx => by cases hx)
      refine ⟨k3, fun b hb => ⟨(ho b).2 ⟨(k4 b hb).1, fun hb' => ?_⟩, (k4 b hb).2⟩⟩
      exact hx _ rfl (h11 _ _ _ _ b hl hli (fun x hx => by cases hx) hb' hb)
    · exact h11 i j li lj b hi hj (fun x hx => by cases hx) hbi hbj

theorem col_head {k : List CK} {S : Tab} (hk : 0 < k.length) (h : ∀ row ∈ S, okRow k row) : chunkN k.length (flatN k.length S) = S :=
  chunkN_flat hk S fun r hr => okRow_len (h r hr)

/-- A row comes to lie somewhere else. -/
theorem RepLists.fill {k : List CK} {ety oty : TypeId} {A S : Tab} {w' : World} {lm lj : Loc} {own : List Nat} {hh : Option (Loc × Int)} (h : RepLists k ety oty A w lm own hh) {r : Int} (h0 : 0 ≤ r) (hr : r < A.length)
    (hole : ∀ x, hh = some x → x.2 = r) (hS : RepVec k ety S w' lj) (hd : ∀ b ∈ lj.own, b ∉ own)
    (hcs : ∀ cs : Array Value, w.heap[lm.blk]? = some (.cells cs oty (0, 0)) → lm.base + lm.cap ≤ cs.size → ∃ cs' : Array Value, w'.heap[lm.blk]? = some (.cells cs' oty (0, 0)) ∧ cs'.size = cs.size ∧ (∀ i, i ≠ lm.base + r.toNat → cs'[i]? = cs[i]?) ∧ cs'[lm.base + r.toNat]? = some (vsVal lj 0 S.length lj.cap))
    (hw : ∀ b ∈ own, b ≠ lm.blk → w'.heap[b]? = w.heap[b]?) (own' : List Nat) (ho : ∀ b, b ∈ own' ↔ b ∈ own ∨ b ∈ lj.own) : RepLists k ety oty (setN k.length A r S) w' lm own' none := by
  obtain ⟨h1, h2, h3, h4, h5, cs, ls, h6, h7, h8, h9, h10, h11⟩ := h
  obtain ⟨cs', c1, c2, c3, c4⟩ := hcs cs h6 h7
  have hrl : r.toNat < A.length := by omega
  have hx : ∀ i, i ≠ r.toNat → ∀ x, hh = some x → x.2.toNat ≠ i := fun i hi x hx e => hi (by rw [← e, hole x hx])
  have geti : ∀ {i : Nat} {li : Loc}, (ls.set r.toNat lj)[i]? = some li → (i = r.toNat ∧ li = lj) ∨ (i ≠ r.toNat ∧ ls[i]? = some li) := by
    intro i li hi
    by_cases e : r.toNat = i
    · subst e; rw [List.getElem?_set_self (by omega)] at hi; exact .inl ⟨rfl, by simpa using hi.symm⟩
    · rw [List.getElem?_set_ne e] at hi; exact .inr ⟨Ne.symm e, hi⟩
  have old : ∀ {i : Nat} {li : Loc} {b : Nat}, i ≠ r.toNat → ls[i]? = some li → b ∈ li.own → b ∈ own ∧ b ≠ lm.blk := by
    intro i li b hi hli hb
    have hil : i < A.length := by have := (List.getElem?_eq_some_iff.1 hli).1; omega
    exact ((h10 i _ li (List.getElem?_eq_getElem hil) hli).2 (hx i hi)).2 b hb
  refine ⟨h1, h2, (ho _).2 (.inl h3), by rw [setN_len]; exact h4, h5, cs', ls.set r.toNat lj, c1, by omega, by simp [setN_len, h8], (fun x hx => by cases hx), fun i row li hi hli => ?_, fun i j li lj' b hi hj _ hbi hbj => ?_⟩
  · rcases geti hli with ⟨rfl, rfl⟩ | ⟨hne, hli'⟩
    · unfold setN at hi
      rw [List.getElem?_set_self hrl] at hi
      simp only [Option.some.injEq] at hi; subst hi
      refine ⟨by rw [col_head hS.2.1 hS.2.2.1]; exact c4, fun _ => ⟨by rw [col_head hS.2.1 hS.2.2.1]; exact hS, fun b hb => ⟨(ho b).2 (.inr hb), fun e => hd b hb (by rw [e]; exact h3)⟩⟩⟩
    · unfold setN at hi
      rw [List.getElem?_set_ne (Ne.symm hne)] at hi
      obtain ⟨k1, k2⟩ := h10 i row li hi hli'
      obtain ⟨k3, k4⟩ := k2 (hx i hne)
      exact ⟨by rw [c3 _ (by omega)]; exact k1, fun _ => ⟨k3.stays fun b hb => hw b (k4 b hb).1 (k4 b hb).2, fun b hb => ⟨(ho b).2 (.inl (k4 b hb).1), (k4 b hb).2⟩⟩⟩
  · rcases geti hi with ⟨rfl, rfl⟩ | ⟨hni, hi'⟩ <;> rcases geti hj with ⟨rfl, rfl⟩ | ⟨hnj, hj'⟩
    · rfl
    · exact absurd (old hnj hj' hbj).1 (hd b hbi)
    · exact absurd (old hni hi' hbi).1 (hd b hbj)
    · exact h11 i j li lj' b hi' hj' (fun x hxx => ⟨hx i hni x hxx, hx j hnj x hxx⟩) hbi hbj

/-- Blocks of a written object were not there at the beginning, or a written one's. -/
theorem MRel.srcs {m : Mem} (h : MRel Φ ρ μ B m w) {i : Nat} {l : Loc} (hi : i ∈ m.wr) (hl : μ[i]? = some l) {b : Nat} (hb : b ∈ l.own) : B.w.heap.size ≤ b ∨ ∃ j lj, j ∈ m.wr ∧ j < B.k ∧ μ[j]? = some lj ∧ b ∈ lj.own := by
  by_cases hk : i < B.k
  · exact .inr ⟨i, l, hi, hk, hl, hb⟩
  · exact h.new i l b (Nat.le_of_not_lt hk) hl hb

/-- An object of blocks that are no object's. -/
theorem MRel.pushO {m : Mem} (h : MRel Φ ρ μ B m w) {o : AObj} {l : Loc} (hd : ∀ (j : Nat) (x : AObj) (lj : Loc) (b : Nat), m.o[j]? = some x → x.alive = true → μ[j]? = some lj → b ∈ lj.own → b ∈ l.own → False)
    (hlt : ∀ b ∈ l.own, b < w.heap.size) (hnew : ∀ b ∈ l.own, B.w.heap.size ≤ b ∨ ∃ j lj, j ∈ m.wr ∧ j < B.k ∧ μ[j]? = some lj ∧ b ∈ lj.own) (hok : ObjOK Φ ρ (μ ++ [l]) w l o) :
    MRel Φ ρ (μ ++ [l]) B { m with o := m.o ++ [o], wr := m.o.length :: m.wr } w := by
  have oldo : ∀ {i : Nat} {x : AObj}, i < μ.length → (m.o ++ [o])[i]? = some x → m.o[i]? = some x := by
    intro i x hi ho
    rwa [List.getElem?_append_left (by rw [← h.len]; exact hi)] at ho
  have lasto : ∀ {x : AObj}, (m.o ++ [o])[μ.length]? = some x → x = o := by
    intro x hx
    rw [h.len, List.getElem?_append_right (Nat.le_refl _)] at hx
    simpa using hx.symm
  constructor
  · simp [h.len]
  · have := h.kle; simp; omega
  · intro i j oi oj li lj b hi hj he ha hli hlj hbi hbj
    rcases get_last hli with ⟨ki, hil⟩ | ⟨rfl, rfl⟩ <;> rcases get_last hlj with ⟨kj, hjl⟩ | ⟨rfl, rfl⟩
    · exact h.apart i j oi oj li lj b (oldo hil hi) (oldo hjl hj) he ha ki kj hbi hbj
    · exact (hd i oi li b (oldo hil hi) (AObj.excl_alive he) ki hbi hbj).elim
    · exact (hd j oj lj b (oldo hjl hj) ha kj hbj hbi).elim
    · rfl
  · intro i x l' hx hl
    rcases get_last hl with ⟨hl, hil⟩ | ⟨rfl, rfl⟩
    · exact (h.obj i x l' (oldo hil hx) hl).more
    · rw [lasto hx]; exact hok
  · intro i x l' hx ha hl b hb
    rcases get_last hl with ⟨hl, hil⟩ | ⟨rfl, rfl⟩
    · exact h.lt i x l' (oldo hil hx) ha hl b hb
    · exact hlt b hb
  · intro b hb hn
    exact h.fr b hb fun i l' hi hk hl => hn i l' (List.mem_cons_of_mem _ hi) hk (get_app hl)
  · intro i l' b hi hl hb
    rcases get_last hl with ⟨hl, hil⟩ | ⟨rfl, rfl⟩
    · rcases h.new i l' b hi hl hb with h1 | ⟨j, lj, h1, h2, h3, h4⟩
      · exact .inl h1
      · exact .inr ⟨j, lj, List.mem_cons_of_mem _ h1, h2, get_app h3, h4⟩
    · rcases hnew b hb with h1 | ⟨j, lj, h1, h2, h3, h4⟩
      · exact .inl h1
      · exact .inr ⟨j, lj, List.mem_cons_of_mem _ h1, h2, get_app h3, h4⟩
  · intro i j x li lj b hi hik hjk hj hx ha hli hlj hbi
    have hjl : j < μ.length := by have := h.kle; rw [h.len]; omega
    have hil : i < μ.length := by have := h.kle; rw [h.len]; omega
    rw [List.getElem?_append_left hil] at hli
    rw [List.getElem?_append_left hjl] at hlj
    have hi' : i ∈ m.wr := by
      rcases List.mem_cons.1 hi with e | hi
      · rw [← h.len] at e; omega
      · exact hi
    exact h.wap i j x li lj b hi' hik hjk (fun e => hj (List.mem_cons_of_mem _ e)) (oldo hjl hx) ha hli hlj hbi
  · exact h.sz
  · exact h.os

/-! ### what the machine of unknowns does -/
def findLists (id : Nat) : Nat → List AObj → Option Nat
  | _, [] => none
  | i, .lists mid _ _ _ _ _ :: r => if Nat.beq mid id then some i else findLists id (i + 1) r
  | i, _ :: r => findLists id (i + 1) r
/-- The slices that lie in the slice at id. -/
def listAt (m : Mem) (id : Nat) : Option Nat := match m.o[id]? with
  | some .dead => findLists id 0 m.o
  | _ => none
def vecAt (m : Mem) (j : Nat) (k : List CK) (ety : TypeId) : Option SL := match m.o[j]? with
  | some (.abs (.vec ks e) S) => if decide (ks = k) && Nat.beq e ety then some S else none
  | _ => none
/-- Objects x and j are gone; a new one comes. -/
def joinM (m : Mem) (x j : Nat) (o : AObj) : Mem := { m with o := (m.o.set j .dead).set x .dead ++ [o], wr := (m.o.set j .dead).length :: x :: j :: m.wr }
/-- The row that is a table of its own is put back. -/
def closeM (m : Mem) (x : Nat) : Option Mem :=
  match m.o[x]? with
  | some (.lists mid k ety oty A (some (j, r))) => match vecAt m j k ety with
    | some S => if SI.same (mkLen 60 S) (mkLen 60 (mkRowN k.length A r)) then some (joinM m x j (.lists mid k ety oty (mkSetN k.length A r S) none)) else none
    | none => none
  | _ => none

theorem vecAt_ok {m : Mem} {j : Nat} {k : List CK} {ety : TypeId} {S : SL} (h : vecAt m j k ety = some S) : m.o[j]? = some (.abs (.vec k ety) S) := by
  unfold vecAt at h
  split at h
  · rename_i ks e S' ho
    split at h
    · rename_i hc
      simp only [Bool.and_eq_true, decide_eq_true_eq] at hc
      simp at h; subst h
      rw [ho, hc.1, Nat.eq_of_beq_eq_true hc.2]
    · cases h
  · cases h

/-- Two objects become one. -/
theorem MRel.join {m : Mem} {w' : World} (h : MRel Φ ρ μ B m w) {x j : Nat} {ox oj o : AObj} {lx lj : Loc} (hne : x ≠ j) (hox : m.o[x]? = some ox) (hex : ox.excl = true) (hlx : μ[x]? = some lx) (hoj : m.o[j]? = some oj) (hej : oj.excl = true) (hlj : μ[j]? = some lj)
    (hw : ∀ b, b < w.heap.size → b ∉ lx.own → w'.heap[b]? = w.heap[b]?) (hs : w.heap.size ≤ w'.heap.size) (hos : w'.os = w.os ∧ w'.tape = w.tape ∧ w'.output = w.output) (l : Loc)
    (hown : ∀ b, b ∈ l.own → b ∈ lx.own ∨ b ∈ lj.own) (hok : ObjOK Φ ρ (μ ++ [l]) w' l o) : MRel Φ ρ (μ ++ [l]) B (joinM m x j o) w' := by
  have h1 := h.upd (o' := .dead) hoj hej hlj (fun _ _ _ => rfl) (Nat.le_refl _) ⟨rfl, rfl, rfl⟩ (.inr rfl) trivial
  have hox' : (m.o.set j .dead)[x]? = some ox := by rw [List.getElem?_set_ne (Ne.symm hne)]; exact hox
  have h2 := h1.upd (o' := .dead) hox' hex hlx hw hs hos (.inr rfl) trivial
  have hjl := (List.getElem?_eq_some_iff.1 hoj).1
  have hxl := (List.getElem?_eq_some_iff.1 hox).1
  have h3 := h2.pushO (o := o) (l := l) ?_ ?_ ?_ hok
  · have e : ((m.o.set j AObj.dead).set x AObj.dead).length = (m.o.set j .dead).length := by simp
    rw [e] at h3
    exact h3
  · intro i y li b hy hya hli hbi hbl
    have hxi : x ≠ i := fun e => by subst e; rw [List.getElem?_set_self (by simpa using hxl)] at hy; simp at hy; subst hy; cases hya
    rw [List.getElem?_set_ne hxi] at hy
    have hji : j ≠ i := fun e => by subst e; rw [List.getElem?_set_self hjl] at hy; simp at hy; subst hy; cases hya
    rw [List.getElem?_set_ne hji] at hy
    rcases hown b hbl with hb | hb
    · exact hxi (h.apart x i ox y lx li b hox hy hex hya hlx hli hb hbi)
    · exact hji (h.apart j i oj y lj li b hoj hy hej hya hlj hli hb hbi)
  · intro b hb
    rcases hown b hb with hb | hb
    · exact Nat.lt_of_lt_of_le (h.lt x ox lx hox (AObj.excl_alive hex) hlx b hb) hs
    · exact Nat.lt_of_lt_of_le (h.lt j oj lj hoj (AObj.excl_alive hej) hlj b hb) hs
  · intro b hb
    rcases hown b hb with hb | hb
    · exact h2.srcs (i := x) (by simp) hlx hb
    · exact h2.srcs (i := j) (by simp) hlj hb

theorem closeM_ok {m m' : Mem} (h : MRel Φ ρ μ B m w) {x : Nat} (hc : closeM m x = some m') :
    ∃ l', MRel Φ ρ (μ ++ [l']) B m' w ∧ ∃ mid k ety oty A A' op, m.o[x]? = some (.lists mid k ety oty A op) ∧ m'.o[m.o.length]? = some (.lists mid k ety oty A' none) ∧ m'.o.length = m.o.length + 1 := by
  unfold closeM at hc
  split at hc
  · rename_i mid k ety oty A j r ho
    split at hc
    · rename_i S hv
      split at hc
      · rename_i hs
        simp only [Option.some.injEq] at hc
        subst hc
        have hoj := vecAt_ok hv
        have hne : x ≠ j := fun e => by rw [e, hoj] at ho; cases ho
        obtain ⟨lx, hlx⟩ : ∃ l, μ[x]? = some l := ⟨_, List.getElem?_eq_getElem (by rw [h.len]; exact (List.getElem?_eq_some_iff.1 ho).1)⟩
        obtain ⟨lj, hlj⟩ : ∃ l, μ[j]? = some l := ⟨_, List.getElem?_eq_getElem (by rw [h.len]; exact (List.getElem?_eq_some_iff.1 hoj).1)⟩
        obtain ⟨lm, hlm, lj', hlj', hL⟩ := h.obj x _ lx ho hlx
        rw [hlj] at hlj'
        simp only [Option.some.injEq] at hlj'
        subst hlj'
        have hR : RepVec k ety (S.ev Φ ρ) w lj := h.obj j _ lj hoj hlj
        have hlen : ((S.ev Φ ρ).length : Int) = ((rowN k.length (A.ev Φ ρ) (r.ev Φ ρ)).length : Int) := by
          have := congrArg (SI.ev Φ ρ) (SI.same_eq _ _ hs)
          simpa using this
        have hhole := hL.2.2.2.2.2
        obtain ⟨cs, ls, q6, q7, q8, q9, q10, q11⟩ := hhole
        obtain ⟨q0, ql⟩ := q9 _ rfl
        simp only at q0 ql
        have hrl : (r.ev Φ ρ).toNat < (A.ev Φ ρ).length := by have := (List.getElem?_eq_some_iff.1 ql).1; omega
        refine ⟨{ lx with own := lx.own ++ lj.own }, h.join hne ho rfl hlx hoj rfl hlj (fun _ _ _ => rfl) (Nat.le_refl _) ⟨rfl, rfl, rfl⟩ _ (fun b hb => by simpa using hb) ?_, mid, k, ety, oty, A, mkSetN k.length A r S, _, ho, ?_, by simp [joinM]⟩
        · refine ⟨lm, get_app hlm, ?_⟩
          simp only [ev_mkSetN]
          refine hL.fill q0 (by omega) (fun x hx => by simp at hx; subst hx; rfl) hR (fun b hb hb' => ?_) (fun cs' hcs' _ => ?_) (fun _ _ _ => rfl) _ (by simp)
          · exact hne (h.apart x j _ _ lx lj b ho hoj rfl rfl hlx hlj hb' hb)
          · rw [q6] at hcs'
            simp only [Option.some.injEq, Obj.cells.injEq] at hcs'
            obtain ⟨rfl, _⟩ := hcs'
            refine ⟨cs, q6, rfl, fun _ _ => rfl, ?_⟩
            have := (q10 _ _ lj (List.getElem?_eq_getElem hrl) ql).1
            rw [this]
            have e : rowN k.length (A.ev Φ ρ) (r.ev Φ ρ) = chunkN k.length (A.ev Φ ρ)[(r.ev Φ ρ).toNat] := by simp [rowN, List.getD, List.getElem?_eq_getElem hrl]
            rw [← e, show (S.ev Φ ρ).length = (rowN k.length (A.ev Φ ρ) (r.ev Φ ρ)).length by omega]
        · simp [joinM]
      · cases hc
    · cases hc
  · cases hc

/-- A row as a table of its own. -/
def openM (m : Mem) (x : Nat) (pc : List SB) (r : SI) : Option (CV × Mem) :=
  match m.o[x]? with
  | some (.lists mid k ety oty A none) => if known pc (.lt r (mkLen 60 A)) = some true then
      some (.vs (m.o.set x .dead).length (.c 0) (mkLen 60 (mkRowN k.length A r)) none,
        { m with o := (m.o.set x .dead ++ [.abs (.vec k ety) (mkRowN k.length A r)]) ++ [.lists mid k ety oty A (some ((m.o.set x .dead).length, r))], wr := (m.o.set x .dead ++ [AObj.abs (.vec k ety) (mkRowN k.length A r)]).length :: (m.o.set x .dead).length :: x :: m.wr })
      else none
  | _ => none

theorem openM_ok {m m' : Mem} (h : MRel Φ ρ μ B m w) (hp : holds Φ ρ pc) {x : Nat} {r : SI} {v : CV} (ho : openM m x pc r = some (v, m')) (h0 : 0 ≤ r.ev Φ ρ) :
    ∃ ν u mid k ety oty A lm, m.o[x]? = some (.lists mid k ety oty A none) ∧ μ[mid]? = some lm ∧ lm.str = 1 ∧ w.cell? ⟨lm.blk, lm.base + (r.ev Φ ρ).toNat, none⟩ = some u ∧ denC Φ ρ (μ ++ ν) v = some u ∧ MRel Φ ρ (μ ++ ν) B m' w := by
  unfold openM at ho
  split at ho
  · rename_i mid k ety oty A hx
    split at ho
    · rename_i hk
      simp only [Option.some.injEq, Prod.mk.injEq] at ho
      obtain ⟨rfl, rfl⟩ := ho
      have hlt := known_ok Φ ρ hp _ _ hk
      simp at hlt
      obtain ⟨lx, hlx⟩ : ∃ l, μ[x]? = some l := ⟨_, List.getElem?_eq_getElem (by rw [h.len]; exact (List.getElem?_eq_some_iff.1 hx).1)⟩
      obtain ⟨lm, hlm, hL⟩ := h.obj x _ lx hx hlx
      obtain ⟨lj, hR, hsub, hcell, hrest⟩ := hL.hole h0 hlt
      have hxl := (List.getElem?_eq_some_iff.1 hx).1
      have h1 := h.upd (o' := .dead) hx rfl hlx (fun _ _ _ => rfl) (Nat.le_refl _) ⟨rfl, rfl, rfl⟩ (.inr rfl) trivial
      have far : ∀ (i : Nat) (y : AObj) (li : Loc) (b : Nat), (m.o.set x .dead)[i]? = some y → y.alive = true → μ[i]? = some li → b ∈ li.own → b ∈ lx.own → False := by
        intro i y li b hy hya hli hbi hbl
        have hxi : x ≠ i := fun e => by subst e; rw [List.getElem?_set_self hxl] at hy; simp at hy; subst hy; cases hya
        rw [List.getElem?_set_ne hxi] at hy
        exact hxi (h.apart x i _ y lx li b hx hy rfl hya hlx hli hbl hbi)
      have hltx := h.lt x _ lx hx rfl hlx
      have h2 := h1.pushO (o := .abs (.vec k ety) (mkRowN k.length A r)) (l := lj) (fun i y li b hy hya hli hbi hbl => far i y li b hy hya hli hbi (hsub b hbl).1)
        (fun b hb => hltx b (hsub b hb).1) (fun b hb => h1.srcs (i := x) (by simp) hlx (hsub b hb).1) (by show RepVec k ety _ w lj; rw [ev_mkRowN]; exact hR)
      have hj : (μ ++ [lj])[(m.o.set x AObj.dead).length]? = some lj := by simp [← h.len]
      have h3 := h2.pushO (o := .lists mid k ety oty A (some ((m.o.set x .dead).length, r))) (l := { lx with own := lx.own.filter fun b => !lj.own.contains b }) ?_ ?_ ?_ ?_
      · refine ⟨[lj, { lx with own := lx.own.filter fun b => !lj.own.contains b }], _, mid, k, ety, oty, A, lm, hx, hlm, hL.1, hcell, ?_, ?_⟩
        · have hle := hR.2.2.2.1
          have hj' : (μ ++ [lj, { lx with own := lx.own.filter fun b => !lj.own.contains b }])[(m.o.set x AObj.dead).length]? = some lj := by simp [← h.len]
          have := den_vs_mk (Φ := Φ) (ρ := ρ) (lo := .c 0) (len := mkLen 60 (mkRowN k.length A r)) (cap := none) hj' (by simp) (by simp) (by simp [vcap]; omega) (by simp [vcap])
            (fun hn => by have h6 := hR.2.2.2.2.2; rw [if_pos hn] at h6; exact h6.1)
          rw [this]
          simp [vcap]
        · rw [show μ ++ [lj, { lx with own := lx.own.filter fun b => !lj.own.contains b }] = μ ++ [lj] ++ [{ lx with own := lx.own.filter fun b => !lj.own.contains b }] by simp]
          exact h3
      · intro i y li b hy hya hli hbi hbl
        simp only [List.mem_filter, Bool.not_eq_true', List.contains_eq_mem, decide_eq_false_iff_not] at hbl
        rcases get_last hli with ⟨hli', hil⟩ | ⟨rfl, rfl⟩
        · simp only at hy
          rw [List.getElem?_append_left (by simp; rw [← h.len]; exact hil)] at hy
          exact far i y li b hy hya hli' hbi hbl.1
        · exact hbl.2 hbi
      · intro b hb
        simp only [List.mem_filter] at hb
        exact hltx b hb.1
      · intro b hb
        simp only [List.mem_filter] at hb
        exact h2.srcs (i := x) (by simp) (get_app hlx) hb.1
      · refine ⟨lm, get_app (get_app hlm), lj, get_app hj, ?_⟩
        exact hrest _ (fun b => by simp [List.contains_eq_mem])
    · cases ho
  · cases ho

/-- What one operation's ways are, as it is asked for of these. -/
def ListGood (Φ : Sig) (ρ : Env) (μ : List Loc) (P : Program) (B : Base) (w : World) (a : Act) (o : Oper) (outs : List (List SB × Option (AV × Mem))) : Prop :=
  (∃ pc', (pc', none) ∈ outs ∧ holds Φ ρ pc') ∨
  ∃ pc' v m' ν w' x n, (pc', some (v, m')) ∈ outs ∧ holds Φ ρ pc' ∧ (execOp a.eval o).run P w = .ok n w' ∧ (n = .value x ∨ n = .skip ∧ x = undef) ∧
    den Φ ρ (μ ++ ν) v = some x ∧ MRel Φ ρ (μ ++ ν) B m' w'

theorem findLists_at {id : Nat} : ∀ {os : List AObj} {k i : Nat}, findLists id k os = some i → ∃ j, i = k + j ∧ ∃ ck e t A op, os[j]? = some (.lists id ck e t A op)
  | [], k, i, h => by simp [findLists] at h
  | o :: r, k, i, h => by
    have step : findLists id (k + 1) r = some i → ∃ j, i = k + j ∧ ∃ ck e t A op, (o :: r)[j]? = some (.lists id ck e t A op) := fun h' => by
      obtain ⟨j, rfl, x⟩ := findLists_at h'
      exact ⟨j + 1, by omega, by simpa using x⟩
    cases o with
    | lists mid ck e t A op =>
      simp only [findLists] at h
      split at h
      · rename_i hb
        have := Nat.eq_of_beq_eq_true hb
        subst this
        simp at h; subst h
        exact ⟨0, rfl, ck, e, t, A, op, rfl⟩
      · exact step h
    | cells => exact step (by simpa [findLists] using h)
    | ext => exact step (by simpa [findLists] using h)
    | abs => exact step (by simpa [findLists] using h)
    | iter => exact step (by simpa [findLists] using h)
    | dead => exact step (by simpa [findLists] using h)
theorem listAt_ok {m : Mem} {id x : Nat} (h : listAt m id = some x) : ∃ k e t A op, m.o[x]? = some (.lists id k e t A op) := by
  unfold listAt at h
  split at h
  · obtain ⟨j, rfl, ck, e, t, A, op, h2⟩ := findLists_at h
    exact ⟨ck, e, t, A, op, by simpa using h2⟩
  · cases h

/-! ### places -/
def listIdx (P : Program) (s : St) (pc : List SB) (t : TypeId) (x i : AV) : Outs :=
  match P.underlying t, x, i with
  | some (.slice e), .cv (.vs id lo len _), .cv (.i _ n) => match listAt s.m id, tySize P e with
    | some _, some sz => if Nat.beq sz 1 then
        some ((ways pc (mkAnd (mkLe (.c 0) n) (mkLt n len))).map fun (b, pc') => (pc', if b then some (.cv (.p (some ⟨id, mkAdd lo n, 0⟩)), s.m) else none)) else none
    | _, _ => none
  | _, _, _ => none
theorem listIdx_ok (hM : MRel Φ ρ μ B s.m w) (hp : holds Φ ρ pc) {t : TypeId} {x i : AV} {vx vi : Value} {outs : List (List SB × Option (AV × Mem))} (h : listIdx P s pc t x i = some outs)
    (hx : den Φ ρ μ x = some vx) (hi : den Φ ρ μ i = some vi) :
    (∃ pc', (pc', none) ∈ outs ∧ holds Φ ρ pc') ∨ ∃ pc' v u, (pc', some (v, s.m)) ∈ outs ∧ holds Φ ρ pc' ∧ den Φ ρ μ v = some u ∧ (Instr.indexAt t vx vi).run P w = .ok u w := by
  unfold listIdx at h
  split at h
  · rename_i e id lo len cap k n hu
    have he : P.underlying t = some (.slice (P.elem t)) := by simp [Program.elem, hu]
    have hee : P.elem t = e := by simp [Program.elem, hu]
    split at h
    · rename_i xi sz hxi hsz
      split at h
      · rename_i hks
        have hks := Nat.eq_of_beq_eq_true hks
        subst hks
        simp only [Option.some.injEq] at h
        subst h
        obtain ⟨b, pc', hmem, hev, hpc'⟩ := ways_ok Φ ρ (mkAnd (mkLe (.c 0) n) (mkLt n len)) hp
        cases b with
        | false => exact .inl ⟨pc', List.mem_map.2 ⟨(false, pc'), hmem, rfl⟩, hpc'⟩
        | true =>
          right
          simp at hev
          obtain ⟨l, hl, h0, h1, h2, h3, h4, rfl⟩ := den_vs hx
          simp [den, denC] at hi
          subst hi
          obtain ⟨ck, e', t', A, op, hox⟩ := listAt_ok hxi
          obtain ⟨lx, hlx⟩ := obj_loc hM hox
          obtain ⟨lm, hlm, hL⟩ := hM.obj xi _ lx hox hlx
          rw [hl] at hlm; simp only [Option.some.injEq] at hlm; subst hlm
          have hst : l.str = 1 := by
            cases op with
            | none => exact hL.1
            | some z => obtain ⟨lj, _, hL⟩ := hL; exact hL.1
          have hnl : ¬ l.nl = true := fun e => by have := h4 e; omega
          have hv : vsVal l (lo.ev Φ ρ).toNat (len.ev Φ ρ).toNat (vcap Φ ρ l lo cap).toNat = .slice (some ⟨l.blk, l.base + (lo.ev Φ ρ).toNat * l.str, none⟩) (len.ev Φ ρ).toNat (vcap Φ ρ l lo cap).toNat := by
            unfold vsVal
            rw [if_neg hnl, if_neg (by omega)]
          refine ⟨pc', .cv (.p (some ⟨id, mkAdd lo n, 0⟩)), .pointer (some ((⟨l.blk, l.base + (lo.ev Φ ρ).toNat * l.str, none⟩ : Addr).add ((n.ev Φ ρ).toNat * 1))), List.mem_map.2 ⟨(true, pc'), hmem, rfl⟩, hpc', ?_, ?_⟩
          · simp only [den, denC, denPt, hl, ev_mkAdd]
            rw [if_pos (by omega), add_eq _ rfl]
            simp only [Option.map_some, Option.some.injEq, Value.pointer.injEq, Addr.mk.injEq, true_and, and_true]
            rw [Int.toNat_add h0 hev.1, Nat.add_mul, hst]
            omega
          · rw [hv, run_indexAt_slice w t _ _ _ k _ he, hee, if_pos (by omega), run_sizeOf' hsz]
            rfl
      · cases h
    · cases h
  · cases h

/-! ### a row is loaded -/
def loadRow (m : Mem) (x : Nat) (pc : List SB) (r : SI) : Option (CV × Mem) :=
  match m.o[x]? with
  | some (.lists _ k ety _ A none) => openM m x pc r
  | some (.lists _ k ety _ A (some (j, r0))) => match (if SI.same r0 r then vecAt m j k ety else none) with
    | some S => if SI.same (mkLen 60 S) (mkLen 60 (mkRowN k.length A r0)) then some (.vs j (.c 0) (mkLen 60 S) none, m) else none
    | none => match closeM m x with
      | some m' => openM m' m.o.length pc r
      | none => none
  | _ => none
theorem loadRow_ok {m m' : Mem} (h : MRel Φ ρ μ B m w) (hp : holds Φ ρ pc) {x : Nat} {r : SI} {v : CV} (hv : loadRow m x pc r = some (v, m')) (h0 : 0 ≤ r.ev Φ ρ) {mid : Nat} {k : List CK} {ety oty : TypeId} {A : SL} {op : Option (Nat × SI)}
    (hx : m.o[x]? = some (.lists mid k ety oty A op)) {lm : Loc} (hlm : μ[mid]? = some lm) :
    lm.str = 1 ∧ ∃ ν u, w.cell? ⟨lm.blk, lm.base + (r.ev Φ ρ).toNat, none⟩ = some u ∧ denC Φ ρ (μ ++ ν) v = some u ∧ MRel Φ ρ (μ ++ ν) B m' w := by
  unfold loadRow at hv
  rw [hx] at hv
  cases op with
  | none =>
    simp only at hv
    obtain ⟨ν, u, mid', k', ety', oty', A', lm', h1, h2, h3, h4, h5, h6⟩ := openM_ok h hp hv h0
    rw [hx] at h1; simp only [Option.some.injEq, AObj.lists.injEq] at h1
    obtain ⟨rfl, _⟩ := h1
    rw [hlm] at h2; simp only [Option.some.injEq] at h2; subst h2
    exact ⟨h3, ν, u, h4, h5, h6⟩
  | some z =>
    obtain ⟨j, r0⟩ := z
    simp only at hv
    split at hv
    · rename_i S hS
      split at hS
      case isFalse => cases hS
      rename_i hr
      have hr := SI.same_eq _ _ hr
      subst hr
      have hoj := vecAt_ok hS
      split at hv
      · rename_i hs
        simp only [Option.some.injEq, Prod.mk.injEq] at hv
        obtain ⟨rfl, rfl⟩ := hv
        obtain ⟨lx, hlx⟩ : ∃ l, μ[x]? = some l := ⟨_, List.getElem?_eq_getElem (by rw [h.len]; exact (List.getElem?_eq_some_iff.1 hx).1)⟩
        obtain ⟨lm', hlm', lj, hlj, hL⟩ := h.obj x _ lx hx hlx
        rw [hlm] at hlm'; simp only [Option.some.injEq] at hlm'; subst hlm'
        have hR : RepVec k ety (S.ev Φ ρ) w lj := h.obj j _ lj hoj hlj
        have hlen : ((S.ev Φ ρ).length : Int) = ((rowN k.length (A.ev Φ ρ) (r0.ev Φ ρ)).length : Int) := by
          have := congrArg (SI.ev Φ ρ) (SI.same_eq _ _ hs)
          simpa using this
        obtain ⟨q1, _, _, _, _, cs, ls, q6, q7, q8, q9, q10, q11⟩ := hL
        obtain ⟨q0, ql⟩ := q9 _ rfl
        simp only at q0 ql
        have hrl : (r0.ev Φ ρ).toNat < (A.ev Φ ρ).length := by have := (List.getElem?_eq_some_iff.1 ql).1; omega
        have hc := (q10 _ _ lj (List.getElem?_eq_getElem hrl) ql).1
        have e : rowN k.length (A.ev Φ ρ) (r0.ev Φ ρ) = chunkN k.length (A.ev Φ ρ)[(r0.ev Φ ρ).toNat] := by simp [rowN, List.getD, List.getElem?_eq_getElem hrl]
        rw [← e, show (rowN k.length (A.ev Φ ρ) (r0.ev Φ ρ)).length = (S.ev Φ ρ).length by omega] at hc
        have hle := hR.2.2.2.1
        have := den_vs_mk (Φ := Φ) (ρ := ρ) (lo := .c 0) (len := mkLen 60 S) (cap := none) hlj (by simp) (by simp) (by simp [vcap]; omega) (by simp [vcap])
          (fun hn => by have h6 := hR.2.2.2.2.2; rw [if_pos hn] at h6; exact h6.1)
        refine ⟨q1, [], vsVal lj 0 (S.ev Φ ρ).length lj.cap, by simp only [World.cell?, q6]; exact hc, ?_, by simpa using h⟩
        rw [List.append_nil, this]
        simp [vcap]
      · cases hv
    · split at hv
      · rename_i m1 hc
        obtain ⟨l', hM1, mid1, k1, e1, o1, A1, A2, op1, g1, g2, g3⟩ := closeM_ok h hc
        rw [hx] at g1; simp only [Option.some.injEq, AObj.lists.injEq] at g1
        obtain ⟨rfl, rfl, rfl, rfl, _⟩ := g1
        obtain ⟨ν, u, mid', k', ety', oty', A', lm', h1, h2, h3, h4, h5, h6⟩ := openM_ok hM1 hp hv h0
        rw [g2] at h1; simp only [Option.some.injEq, AObj.lists.injEq] at h1
        obtain ⟨rfl, _⟩ := h1
        rw [get_app hlm] at h2; simp only [Option.some.injEq] at h2; subst h2
        refine ⟨h3, [l'] ++ ν, u, h4, ?_, ?_⟩
        · rw [← List.append_assoc]; exact h5
        · rw [← List.append_assoc]; exact h6
      · cases hv

def listLoad (P : Program) (s : St) (pc : List SB) (t : TypeId) (a : AV) : Outs :=
  match a, tySize P t, tyAgg P t with
  | .cv (.p (some p)), some n, some false => if Nat.beq n 1 && Nat.beq p.j 0 then match listAt s.m p.id with
      | some x => (loadRow s.m x pc p.r).map fun v => [(pc, some (.cv v.1, v.2))]
      | none => none
    else none
  | _, _, _ => none
theorem listLoad_ok (hM : MRel Φ ρ μ B s.m w) (hp : holds Φ ρ pc) {t : TypeId} {x : AV} {vx : Value} {outs : List (List SB × Option (AV × Mem))} (h : listLoad P s pc t x = some outs) (hx : den Φ ρ μ x = some vx) :
    ∃ v m' ν u, outs = [(pc, some (v, m'))] ∧ (Instr.loadAt t vx).run P w = .ok u w ∧ den Φ ρ (μ ++ ν) v = some u ∧ MRel Φ ρ (μ ++ ν) B m' w := by
  unfold listLoad at h
  split at h
  · rename_i p n hn ha
    split at h
    · rename_i hc
      rw [Bool.and_eq_true] at hc
      have hn1 := Nat.eq_of_beq_eq_true hc.1
      have hj := Nat.eq_of_beq_eq_true hc.2
      subst hn1
      split at h
      · rename_i x hxi
        simp only [Option.map_eq_some_iff] at h
        obtain ⟨⟨v, m'⟩, hv, rfl⟩ := h
        obtain ⟨addr, haddr, rfl⟩ := den_ptr hx
        obtain ⟨k, e, ot, A, op, hox⟩ := listAt_ok hxi
        unfold denPt at haddr
        cases hlm : μ[p.id]? with
        | none => rw [hlm] at haddr; cases haddr
        | some lm =>
          rw [hlm] at haddr
          simp only at haddr
          split at haddr
          case isFalse => cases haddr
          rename_i h0
          simp only [Option.some.injEq] at haddr; subst haddr
          obtain ⟨g1, ν, u, g2, g3, g4⟩ := loadRow_ok hM hp hv h0 hox hlm
          refine ⟨.cv v, m', ν, u, rfl, (run_loadAt hn ha (vs := [u]) rfl fun j v hv => ?_).2 u rfl rfl, g3, g4⟩
          cases j with
          | zero =>
            simp only [List.getElem?_cons_zero, Option.some.injEq] at hv; subst hv
            rw [add_eq _ rfl, g1, hj]
            simpa using g2
          | succ j => simp at hv
      · cases h
    · cases h
  · cases h

/-! ### a row is stored -/
theorem store_core {m : Mem} (h : MRel Φ ρ μ B m w) {x mid : Nat} {k : List CK} {ety oty : TypeId} {A : SL} {op : Option (Nat × SI)} (hx : m.o[x]? = some (.lists mid k ety oty A op)) {lx lm lj : Loc} (hlx : μ[x]? = some lx) (hlm : μ[mid]? = some lm)
    {t : TypeId} (hn : tySize P t = some 1) {r : Int} (h0 : 0 ≤ r) (hr : r < (A.ev Φ ρ).length) (hop : ∀ z, op = some z → z.2.ev Φ ρ = r) {S : Tab} (hS : RepVec k ety S w lj) (hd : ∀ b ∈ lj.own, b ∉ lx.own) :
    ∃ w', (Instr.storeAt t (.pointer (some ⟨lm.blk, lm.base + r.toNat * lm.str, none⟩)) (vsVal lj 0 S.length lj.cap)).run P w = .ok () w' ∧ (∀ b, b < w.heap.size → b ∉ lx.own → w'.heap[b]? = w.heap[b]?) ∧ w.heap.size ≤ w'.heap.size ∧
      (w'.os = w.os ∧ w'.tape = w.tape ∧ w'.output = w.output) ∧ ∀ own', (∀ b, b ∈ own' ↔ b ∈ lx.own ∨ b ∈ lj.own) → RepLists k ety oty (setN k.length (A.ev Φ ρ) r S) w' lm own' none := by
  obtain ⟨lm', hlm', hL⟩ := h.obj x _ lx hx hlx
  rw [hlm] at hlm'; simp only [Option.some.injEq] at hlm'; subst hlm'
  have hL : ∃ hh, RepLists k ety oty (A.ev Φ ρ) w lm lx.own hh ∧ ∀ z, hh = some z → z.2 = r := by
    cases op with
    | none => exact ⟨none, hL, fun z hz => by cases hz⟩
    | some z => obtain ⟨lj', _, hL⟩ := hL; exact ⟨_, hL, fun y hy => by simp at hy; subst hy; exact hop z rfl⟩
  obtain ⟨hh, hL, hhole⟩ := hL
  obtain ⟨q1, q2, q3, q4, q5, cs, ls, q6, q7, q8, _⟩ := id hL
  have hrl : lm.base + r.toNat < cs.size := by omega
  have hone : ∀ v ∈ [vsVal lj 0 S.length lj.cap], v.oneCell' = true := by
    intro v hv
    simp only [List.mem_singleton] at hv; subst hv
    unfold vsVal; split <;> rfl
  have hcells : (vsVal lj 0 S.length lj.cap).cells = #[vsVal lj 0 S.length lj.cap] := by unfold vsVal; split <;> rfl
  have hst := run_storeCells_at P lm.blk (lm.base + r.toNat) oty [vsVal lj 0 S.length lj.cap] 0 cs w q6 (by simp; omega) hone
  simp only [Nat.add_zero] at hst
  refine ⟨w.setRow lm.blk (cs.toList.take (lm.base + r.toNat) ++ [vsVal lj 0 S.length lj.cap] ++ cs.toList.drop (lm.base + r.toNat + 1)).toArray, ?_, fun b hb hne => setRow_heap_other w _ _ (fun e => hne (by rw [e]; exact q3)), by rw [setRow_size]; exact Nat.le_refl _, ⟨rfl, rfl, rfl⟩, fun own' ho => ?_⟩
  · simp only [Instr.storeAt, Instr.sureAddr, storeVar, Sem.run_bind, Sem.run_pure, Result.andThen_ok, run_sizeOf' hn, hcells]
    rw [q1, Nat.mul_one]
    exact hst
  · have hne : ∀ b ∈ lj.own, b ≠ lm.blk := fun b hb e => hd b hb (by rw [e]; exact q3)
    refine hL.fill h0 hr hhole (hS.stays fun b hb => setRow_heap_other w _ _ (hne b hb)) hd (fun cs' hcs' _ => ?_) (fun b _ hb => setRow_heap_other w _ _ hb) own' ho
    rw [q6] at hcs'
    simp only [Option.some.injEq, Obj.cells.injEq] at hcs'
    obtain ⟨rfl, _⟩ := hcs'
    have hmin : min (lm.base + r.toNat) cs.size = lm.base + r.toNat := by omega
    refine ⟨_, setRow_heap w lm.blk _ _ oty _ q6, ?_, fun i hi => ?_, ?_⟩
    · simp only [List.size_toArray, List.length_append, List.length_take, List.length_drop, Array.length_toList, List.length_cons, List.length_nil]; omega
    · simp only [List.getElem?_toArray]
      rcases Nat.lt_or_ge i (lm.base + r.toNat) with hlt | hge
      · rw [List.append_assoc, List.getElem?_append_left (by simp; omega), List.getElem?_take, if_pos hlt]; simp
      · rw [List.getElem?_append_right (by simp; omega), List.getElem?_drop]
        simp only [List.length_append, List.length_take, Array.length_toList, List.length_cons, List.length_nil, hmin]
        rw [show lm.base + r.toNat + 1 + (i - (lm.base + r.toNat + (0 + 1))) = i by omega]; simp
    · simp only [List.getElem?_toArray]
      rw [List.append_assoc, List.getElem?_append_right (by simp; omega)]
      simp [hmin]

def rowIs (op : Option (Nat × SI)) (r : SI) : Bool := match op with
  | none => true
  | some z => SI.same z.2 r
def fillM (m : Mem) (x : Nat) (pc : List SB) (r : SI) (c : CV) : Option (List (List SB × Mem)) :=
  match m.o[x]? with
  | some (.lists mid k ety oty A op) => if known pc (.lt r (mkLen 60 A)) == some true && rowIs op r then
      match c with
      | .vs j (.c 0) n none => match vecAt m j k ety with
        | some S => if SI.same n (mkLen 60 S) then some [(pc, joinM m x j (.lists mid k ety oty (mkSetN k.length A r S) none))] else none
        | none => none
      | .sl none _ _ => if Nat.ble 1 k.length then some [(pc, { m with o := m.o.set x .dead ++ [.lists mid k ety oty (mkSetN k.length A r (.lit [])) none], wr := m.o.length :: x :: m.wr })] else none
      | .sl (some ⟨j, .c 0, 0⟩) (.c (.ofNat n)) (.c (.ofNat n')) => match m.o[j]? with
        | some (.cells cs ty) => if decide (n * k.length = cs.length) && (decide (n' = n) && (decide (ty = ety) && (Nat.ble n 1000000 && Nat.ble 1 k.length))) then
            (rowsI pc k n cs).map fun l => l.map fun y => (y.1, joinM m x j (.lists mid k ety oty (mkSetN k.length A r y.2) none)) else none
        | _ => none
      | _ => none
    else none
  | _ => none

theorem fillM_ok {m : Mem} (h : MRel Φ ρ μ B m w) (hp : holds Φ ρ pc) {x : Nat} {r : SI} {c : CV} {ws : List (List SB × Mem)} (hf : fillM m x pc r c = some ws) (h0 : 0 ≤ r.ev Φ ρ) {vy : Value} (hc : denC Φ ρ μ c = some vy)
    {t : TypeId} (hn : tySize P t = some 1) {mid : Nat} {k : List CK} {ety oty : TypeId} {A : SL} {op : Option (Nat × SI)} (hx : m.o[x]? = some (.lists mid k ety oty A op)) {lm : Loc} (hlm : μ[mid]? = some lm) :
    ∃ pc' m' ν w', (pc', m') ∈ ws ∧ holds Φ ρ pc' ∧ (Instr.storeAt t (.pointer (some ⟨lm.blk, lm.base + (r.ev Φ ρ).toNat * lm.str, none⟩)) vy).run P w = .ok () w' ∧ MRel Φ ρ (μ ++ ν) B m' w' := by
  unfold fillM at hf
  rw [hx] at hf
  simp only at hf
  split at hf
  case isFalse => cases hf
  rename_i hcond
  rw [Bool.and_eq_true, beq_iff_eq] at hcond
  have hlt := known_ok Φ ρ hp _ _ hcond.1
  simp at hlt
  have hop : ∀ z, op = some z → z.2.ev Φ ρ = r.ev Φ ρ := fun z hz => by
    have := hcond.2
    rw [hz] at this
    unfold rowIs at this
    rw [SI.same_eq _ _ this]
  obtain ⟨lx, hlx⟩ : ∃ l, μ[x]? = some l := ⟨_, List.getElem?_eq_getElem (by rw [h.len]; exact (List.getElem?_eq_some_iff.1 hx).1)⟩
  split at hf
  · rename_i j n
    split at hf
    · rename_i S hv
      split at hf
      · rename_i hs
        have hs := SI.same_eq _ _ hs
        subst hs
        simp only [Option.some.injEq] at hf; subst hf
        have hoj := vecAt_ok hv
        have hne : x ≠ j := fun e => by rw [e, hoj] at hx; cases hx
        obtain ⟨lj, hlj⟩ : ∃ l, μ[j]? = some l := ⟨_, List.getElem?_eq_getElem (by rw [h.len]; exact (List.getElem?_eq_some_iff.1 hoj).1)⟩
        have hR : RepVec k ety (S.ev Φ ρ) w lj := h.obj j _ lj hoj hlj
        obtain ⟨l, hl, g0, g1, g2, g3, g4, rfl⟩ := den_vs hc
        rw [hlj] at hl; simp only [Option.some.injEq] at hl; subst hl
        obtain ⟨w', hrun, hw, hsz, hos, hrep⟩ := store_core (P := P) h hx hlx hlm hn h0 (by omega) hop hR (fun b hb hb' => hne (h.apart x j _ _ lx lj b hx hoj rfl rfl hlx hlj hb' hb))
        refine ⟨pc, _, [{ lx with own := lx.own ++ lj.own }], w', List.mem_singleton.2 rfl, hp, ?_, h.join hne hx rfl hlx hoj rfl hlj hw hsz hos _ (fun b hb => by simpa using hb) ⟨lm, get_app hlm, ?_⟩⟩
        · simpa [vcap] using hrun
        · simp only [ev_mkSetN]
          exact hrep _ (by simp)
      · cases hf
    · cases hf
  · split at hf
    case isFalse => cases hf
    rename_i hk1
    have hk1 := Nat.le_of_ble_eq_true hk1
    simp only [Option.some.injEq] at hf; subst hf
    simp only [denC] at hc
    split at hc
    case isFalse => cases hc
    simp only [Option.some.injEq] at hc; subst hc
    obtain ⟨w', hrun, hw, hsz, hos, hrep⟩ := store_core (P := P) h hx hlx hlm hn h0 (by omega) hop (rep_nil (w := w) (ks := k) (ty := ety) hk1) (by simp [nilLoc])
    refine ⟨pc, _, [lx], w', List.mem_singleton.2 rfl, hp, by simpa [vsVal, nilLoc] using hrun, h.move hx rfl hlx hw hsz hos (fun b hb => ⟨.inl hb, Nat.lt_of_lt_of_le (h.lt x _ lx hx rfl hlx b hb) hsz⟩) ⟨lm, get_app hlm, ?_⟩⟩
    simp only [ev_mkSetN]
    exact hrep _ (by simp [nilLoc])
  · rename_i j n n'
    split at hf
    · rename_i cs ty hoj
      split at hf
      · rename_i hq
        simp only [Bool.and_eq_true, decide_eq_true_eq] at hq
        obtain ⟨q1, q2, q3, q4, q5⟩ := hq
        have q5 := Nat.le_of_ble_eq_true q5
        subst q2; subst q3
        simp only [Option.map_eq_some_iff] at hf
        obtain ⟨l, hl, rfl⟩ := hf
        have hne : x ≠ j := fun e => by rw [e, hoj] at hx; cases hx
        obtain ⟨lj, hlj⟩ : ∃ l, μ[j]? = some l := ⟨_, List.getElem?_eq_getElem (by rw [h.len]; exact (List.getElem?_eq_some_iff.1 hoj).1)⟩
        obtain ⟨hb, hst, hown, vs, hv, hh⟩ := h.obj j _ lj hoj hlj
        have hvl := denL_length hv
        obtain ⟨pc', S, hm, hp', hS, hok, hlen⟩ := rowsI_ok hp hl hv q1.symm
        simp only [denC] at hc
        split at hc
        case isFalse => cases hc
        rename_i hcc
        simp only [Option.map_eq_some_iff] at hc
        obtain ⟨ad, had, rfl⟩ := hc
        have := denPt_cells had hlj hb hst
        subst this
        have hR : RepVec k ty (S.ev Φ ρ) w ⟨lj.blk, 0, k.length, n', false, [lj.blk]⟩ := by
          refine ⟨rfl, q5, hok, by simp [hlen], ?_, ?_⟩
          · have := Nat.le_of_ble_eq_true q4; simp only [maxLen]; omega
          · rw [if_neg (by simp)]
            refine ⟨rfl, vs.toArray, hh, by simp; omega, fun i v hv' => ?_⟩
            rw [hS] at hv'
            simpa using hv'
        have hd : ∀ b ∈ ([lj.blk] : List Nat), b ∉ lx.own := fun b hb hb' => hne (h.apart x j _ _ lx lj b hx hoj rfl rfl hlx hlj hb' (by rw [hown]; exact hb))
        obtain ⟨w', hrun, hw, hsz, hos, hrep⟩ := store_core (P := P) h hx hlx hlm hn h0 (by omega) hop hR hd
        refine ⟨pc', _, [{ lx with own := lx.own ++ lj.own }], w', List.mem_map.2 ⟨(pc', S), hm, rfl⟩, hp', ?_, h.join hne hx rfl hlx hoj rfl hlj hw hsz hos _ (fun b hb => by simpa using hb) ⟨lm, get_app hlm, ?_⟩⟩
        · simpa [vsVal, hlen] using hrun
        · simp only [ev_mkSetN]
          exact hrep _ (by simp [hown])
      · cases hf
    · cases hf
  · cases hf

def storeRow (m : Mem) (x : Nat) (pc : List SB) (r : SI) (c : CV) : Option (List (List SB × Mem)) :=
  match m.o[x]? with
  | some (.lists _ _ _ _ _ op) => if rowIs op r then fillM m x pc r c else match closeM m x with
    | some m' => fillM m' m.o.length pc r c
    | none => none
  | _ => none
theorem RepVec.short {ks : List CK} {e : TypeId} {A : Tab} {l : Loc} (h : RepVec ks e A w l) (i : Nat) : RepVec ks e (A.take i) w l := by
  obtain ⟨h1, h2, h3, h4, h5, h6⟩ := h
  refine ⟨h1, h2, fun row hr => h3 row (List.mem_of_mem_take hr), by have := List.length_take_le' i A; omega, h5, ?_⟩
  split
  · rename_i hn; rw [if_pos hn] at h6; exact h6
  · rename_i hn; rw [if_neg hn] at h6
    obtain ⟨g1, cs, g2, g3, g4⟩ := h6
    refine ⟨g1, cs, g2, g3, fun k v hv => g4 k v ?_⟩
    have e : A = A.take i ++ A.drop i := (List.take_append_drop i A).symm
    rw [e, List.flatMap_append, List.getElem?_append_left (List.getElem?_eq_some_iff.1 hv).1]
    exact hv
/-- A part of a slice that has a table of its own: the rest is left. -/
def canonC (m : Mem) (pc : List SB) (c : CV) : Option (CV × Mem) :=
  match c with
  | .vs j (.c 0) n none => match m.o[j]? with
    | some (.abs (.vec ks ty) A) => if known pc (mkLe (.c 0) n) == some true && known pc (mkLe n (mkLen 60 A)) == some true then
        some (.vs m.o.length (.c 0) (mkLen 60 (mkTake A n)) none, { m with o := m.o.set j .dead ++ [.abs (.vec ks ty) (mkTake A n)], wr := m.o.length :: j :: m.wr }) else none
    | _ => none
  | .vs j lo n none => canon m j lo n
  | _ => none
theorem canonC_ok {m m' : Mem} (h : MRel Φ ρ μ B m w) (hp : holds Φ ρ pc) {c v : CV} {x : Value} (hc : canonC m pc c = some (v, m')) (hx : denC Φ ρ μ c = some x) :
    ∃ l', MRel Φ ρ (μ ++ [l']) B m' w ∧ denC Φ ρ (μ ++ [l']) v = some x := by
  unfold canonC at hc
  split at hc
  · rename_i j n
    split at hc
    case h_2 => cases hc
    rename_i ks ty A ho
    split at hc
    case isFalse => cases hc
    rename_i hk
    rw [Bool.and_eq_true, beq_iff_eq, beq_iff_eq] at hk
    have hk1 := known_ok Φ ρ hp _ _ hk.1
    have hk2 := known_ok Φ ρ hp _ _ hk.2
    simp at hk1 hk2
    simp only [Option.some.injEq, Prod.mk.injEq] at hc
    obtain ⟨rfl, rfl⟩ := hc
    obtain ⟨l, hl, h0, h1, h2, h3, h4, rfl⟩ := den_vs hx
    have hR : RepVec ks ty (A.ev Φ ρ) w l := h.obj j _ l ho hl
    refine ⟨l, h.move ho rfl hl (fun _ _ _ => rfl) (Nat.le_refl _) ⟨rfl, rfl, rfl⟩ (fun b hb => ⟨.inl hb, h.lt j _ l ho rfl hl b hb⟩) ?_, ?_⟩
    · show RepVec ks ty ((mkTake A n).ev Φ ρ) w _
      rw [ev_mkTake]; exact hR.short _
    · have hl' : (μ ++ [l])[m.o.length]? = some l := by rw [← h.len, List.getElem?_append_right (Nat.le_refl _)]; simp
      have e1 : (mkLen 60 (mkTake A n)).ev Φ ρ = n.ev Φ ρ := by rw [ev_mkLen, ev_mkTake, List.length_take]; omega
      have hle := hR.2.2.2.1
      have := den_vs_mk (Φ := Φ) (ρ := ρ) (lo := .c 0) (len := mkLen 60 (mkTake A n)) (cap := none) hl' (by simp) (by rw [e1]; exact hk1) (by rw [e1]; simp only [vcap, ev_c]; omega) (by simp [vcap]) (fun hn => by have h6 := hR.2.2.2.2.2; rw [if_pos hn] at h6; exact h6.1)
      rw [this, e1]
  · exact canon_ok h hc hx
  · cases hc
theorem storeRow_ok {m : Mem} (hM : MRel Φ ρ μ B m w) (hp : holds Φ ρ pc) {x : Nat} {r : SI} {c : CV} {ws : List (List SB × Mem)} (h : storeRow m x pc r c = some ws) (h0 : 0 ≤ r.ev Φ ρ) {vy : Value} (hy : denC Φ ρ μ c = some vy)
    {t : TypeId} (hn : tySize P t = some 1) {mid : Nat} {k : List CK} {ety oty : TypeId} {A : SL} {op : Option (Nat × SI)} (hox : m.o[x]? = some (.lists mid k ety oty A op)) {lm : Loc} (hlm : μ[mid]? = some lm) :
    ∃ pc' m' ν w', (pc', m') ∈ ws ∧ holds Φ ρ pc' ∧ (Instr.storeAt t (.pointer (some ⟨lm.blk, lm.base + (r.ev Φ ρ).toNat * lm.str, none⟩)) vy).run P w = .ok () w' ∧ MRel Φ ρ (μ ++ ν) B m' w' := by
  unfold storeRow at h
  rw [hox] at h
  simp only at h
  split at h
  · exact fillM_ok hM hp h h0 hy hn hox hlm
  · split at h
    · rename_i m1 hcl
      obtain ⟨l', hM1, mid1, k1, e1, o1, A1, A2, op1, g1, g2, g3⟩ := closeM_ok hM hcl
      rw [hox] at g1; simp only [Option.some.injEq, AObj.lists.injEq] at g1
      obtain ⟨rfl, rfl, rfl, rfl, _⟩ := g1
      have hy' : denC Φ ρ (μ ++ [l']) c = some vy := den_mono (v := .cv c) hy
      obtain ⟨pc', m', ν, w', r1, r2, r3, r4⟩ := fillM_ok (P := P) (t := t) hM1 hp h h0 hy' hn g2 (get_app hlm)
      exact ⟨pc', m', [l'] ++ ν, w', r1, r2, r3, by rw [← List.append_assoc]; exact r4⟩
    · cases h
def storeR (m : Mem) (x : Nat) (pc : List SB) (r : SI) (c : CV) : Option (List (List SB × Mem)) :=
  match storeRow m x pc r c with
  | some l => some l
  | none => match canonC m pc c with
    | some (c', m') => match m'.o[x]? with
      | some (.lists _ _ _ _ _ _) => storeRow m' x pc r c'
      | _ => none
    | none => none
theorem canonC_keeps {m m' : Mem} {c v : CV} (hc : canonC m pc c = some (v, m')) {x : Nat} {o o' : AObj} (hx : m.o[x]? = some o) (hx' : m'.o[x]? = some o') (hne : o' ≠ .dead) : o' = o := by
  have key : ∀ (j : Nat) (z : AObj), (m.o.set j .dead ++ [z])[x]? = some o' → o' = o := fun j z hz => by
    have hxl := (List.getElem?_eq_some_iff.1 hx).1
    rw [List.getElem?_append_left (by simpa using hxl)] at hz
    by_cases e : j = x
    · subst e
      rw [List.getElem?_set_self hxl] at hz
      simp at hz
      exact absurd hz.symm hne
    · rw [List.getElem?_set_ne e, hx] at hz
      simpa using hz.symm
  unfold canonC at hc
  split at hc
  · split at hc
    case h_2 => cases hc
    split at hc
    case isFalse => cases hc
    simp only [Option.some.injEq, Prod.mk.injEq] at hc
    obtain ⟨rfl, rfl⟩ := hc
    exact key _ _ hx'
  · unfold canon at hc
    split at hc
    · split at hc
      · simp only [Option.some.injEq, Prod.mk.injEq] at hc
        obtain ⟨rfl, rfl⟩ := hc
        exact key _ _ hx'
      · cases hc
    · cases hc
  · cases hc
theorem storeR_ok {m : Mem} (hM : MRel Φ ρ μ B m w) (hp : holds Φ ρ pc) {x : Nat} {r : SI} {c : CV} {ws : List (List SB × Mem)} (h : storeR m x pc r c = some ws) (h0 : 0 ≤ r.ev Φ ρ) {vy : Value} (hy : denC Φ ρ μ c = some vy)
    {t : TypeId} (hn : tySize P t = some 1) {mid : Nat} {k : List CK} {ety oty : TypeId} {A : SL} {op : Option (Nat × SI)} (hox : m.o[x]? = some (.lists mid k ety oty A op)) {lm : Loc} (hlm : μ[mid]? = some lm) :
    ∃ pc' m' ν w', (pc', m') ∈ ws ∧ holds Φ ρ pc' ∧ (Instr.storeAt t (.pointer (some ⟨lm.blk, lm.base + (r.ev Φ ρ).toNat * lm.str, none⟩)) vy).run P w = .ok () w' ∧ MRel Φ ρ (μ ++ ν) B m' w' := by
  unfold storeR at h
  split at h
  · rename_i l hl
    simp only [Option.some.injEq] at h; subst h
    exact storeRow_ok hM hp hl h0 hy hn hox hlm
  · split at h
    · rename_i c' m' hcc
      split at h
      · rename_i mid' k' e' o' A' op' hx'
        have hk := canonC_keeps hcc hox hx' (by intro e; cases e)
        simp only [AObj.lists.injEq] at hk
        obtain ⟨rfl, rfl, rfl, rfl, rfl, rfl⟩ := hk
        obtain ⟨l', hM1, hy'⟩ := canonC_ok hM hp hcc hy
        obtain ⟨pc', m2, ν, w', r1, r2, r3, r4⟩ := storeRow_ok (P := P) (t := t) hM1 hp h h0 hy' hn hx' (get_app hlm)
        exact ⟨pc', m2, [l'] ++ ν, w', r1, r2, r3, by rw [← List.append_assoc]; exact r4⟩
      · cases h
    · cases h
def listStore (P : Program) (s : St) (pc : List SB) (t : TypeId) (a x : AV) : Option (List (List SB × Mem)) :=
  match a, x, tySize P t with
  | .cv (.p (some p)), .cv c, some n => if Nat.beq n 1 && Nat.beq p.j 0 then match listAt s.m p.id with
      | some x => storeR s.m x pc p.r c
      | none => none
    else none
  | _, _, _ => none
theorem listStore_ok (hM : MRel Φ ρ μ B s.m w) (hp : holds Φ ρ pc) {t : TypeId} {x y : AV} {vx vy : Value} {ws : List (List SB × Mem)} (h : listStore P s pc t x y = some ws) (hx : den Φ ρ μ x = some vx) (hy : den Φ ρ μ y = some vy) :
    ∃ pc' m ν w', (pc', m) ∈ ws ∧ holds Φ ρ pc' ∧ (Instr.storeAt t vx vy).run P w = .ok () w' ∧ MRel Φ ρ (μ ++ ν) B m w' := by
  unfold listStore at h
  split at h
  · rename_i p c n hn
    split at h
    · rename_i hc
      rw [Bool.and_eq_true] at hc
      have hn1 := Nat.eq_of_beq_eq_true hc.1
      have hj := Nat.eq_of_beq_eq_true hc.2
      subst hn1
      split at h
      · rename_i x hxi
        obtain ⟨addr, haddr, rfl⟩ := den_ptr hx
        obtain ⟨k, e, ot, A, op, hox⟩ := listAt_ok hxi
        unfold denPt at haddr
        cases hlm : μ[p.id]? with
        | none => rw [hlm] at haddr; cases haddr
        | some lm =>
          rw [hlm] at haddr
          simp only at haddr
          split at haddr
          case isFalse => cases haddr
          rename_i h0
          simp only [Option.some.injEq] at haddr; subst haddr
          rw [hj, Nat.add_zero]
          exact storeR_ok hM hp h h0 hy hn hox hlm
      · cases h
    · cases h
  · cases h

/-! ### slices in a slice are made -/
def listMake (P : Program) (s : St) (pc : List SB) (t : TypeId) (n c : AV) : Option (AV × Mem) :=
  match P.underlying t, n, c with
  | some (.slice e), .cv (.i .i64 n), .cv (.i .i64 c) => match P.info? e, P.underlying e with
    | some info, some (.slice e2) => match flat P 5 e2, info.zero with
      | some k, some (.slice none 0 0) =>
        if SI.same n c && (leO (loOf pc n) 0 && (fits pc n info.bytes 281474976710656 && (Nat.beq info.size 1 && Nat.ble 1 k.length))) then
          some (.cv (.vs s.m.o.length (.c 0) (mkLen 60 (mkRep n [])) none), { s.m with o := (s.m.o ++ [.dead]) ++ [.lists s.m.o.length k e2 e (mkRep n []) none], wr := s.m.wr }) else none
      | _, _ => none
    | _, _ => none
  | _, _, _ => none
theorem listMake_ok (hM : MRel Φ ρ μ B s.m w) (hp : holds Φ ρ pc) {t : TypeId} {n c v : AV} {m : Mem} {vn vc : Value} (h : listMake P s pc t n c = some (v, m)) (hn : den Φ ρ μ n = some vn) (hc : den Φ ρ μ c = some vc) :
    ∃ ν w' x, (Instr.makeSlice t vn vc).run P w = .ok x w' ∧ den Φ ρ (μ ++ ν) v = some x ∧ MRel Φ ρ (μ ++ ν) B m w' := by
  unfold listMake at h
  split at h
  · rename_i e n c hu
    simp [den, denC] at hn hc; subst hn; subst hc
    split at h
    · rename_i info e2 hi he2
      split at h
      · rename_i k hfl hzi
        split at h
        · rename_i hcond
          simp only [Bool.and_eq_true] at hcond
          obtain ⟨hs, hlo, hf, hsz, hk1⟩ := hcond
          have hsz := Nat.eq_of_beq_eq_true hsz
          have hk1 := Nat.le_of_ble_eq_true hk1
          have := SI.same_eq _ _ hs
          subst this
          obtain ⟨lo, hlo1, hlo2⟩ := leO_ok hlo
          have hlo3 := lo_ok Φ ρ hp hlo1
          have hn0 : 0 ≤ n.ev Φ ρ := by omega
          obtain ⟨hb, hmx⟩ := fits_ok hp hf hn0
          have hb' : (info.bytes : Int) * n.ev Φ ρ ≤ 281474976710656 := by
            have h2 : (((n.ev Φ ρ).toNat * info.bytes : Nat) : Int) ≤ 281474976710656 := by omega
            rw [Int.natCast_mul, Int.toNat_of_nonneg hn0, Int.mul_comm] at h2
            exact h2
          have hrun := run_make (P := P) w t e info _ hu hi hzi .i64 .i64 (n.ev Φ ρ) (n.ev Φ ρ) hn0 (Int.le_refl _) hb' (by simp only [maxLen] at hmx; omega)
          simp only [Option.some.injEq, Prod.mk.injEq] at h
          obtain ⟨rfl, rfl⟩ := h
          have hlen : ((mkRep n []).ev Φ ρ).length = (n.ev Φ ρ).toNat := by simp
          have hev : (mkLen 60 (mkRep n [])).ev Φ ρ = n.ev Φ ρ := by rw [ev_mkLen, hlen]; omega
          have hz : (Value.slice none 0 0).cells = #[Value.slice none 0 0] := rfl
          have h1 := hM.push (o := .dead) (l := ⟨w.heap.size, 0, 1, (n.ev Φ ρ).toNat, false, []⟩) (w' := w) (fun _ _ => rfl) (Nat.le_refl _) ⟨rfl, rfl, rfl⟩ (by simp) trivial
          have hl0 : (μ ++ [(⟨w.heap.size, 0, 1, (n.ev Φ ρ).toNat, false, []⟩ : Loc)])[s.m.o.length]? = some ⟨w.heap.size, 0, 1, (n.ev Φ ρ).toNat, false, []⟩ := by
            rw [← hM.len, List.getElem?_append_right (Nat.le_refl _)]; simp
          have h2 := h1.push (o := .lists s.m.o.length k e2 e (mkRep n []) none) (l := ⟨w.heap.size, 0, 0, 0, false, [w.heap.size]⟩) (w' := w.alloc (.cells (madeCells (Value.slice none 0 0).cells ((n.ev Φ ρ).toNat * info.size)) e))
            (fun b hb => heap_alloc_lt w _ hb) (by rw [World.size_alloc]; omega) ⟨rfl, rfl, rfl⟩ (by simp) ?_
          · refine ⟨[⟨w.heap.size, 0, 1, (n.ev Φ ρ).toNat, false, []⟩, ⟨w.heap.size, 0, 0, 0, false, [w.heap.size]⟩], _, _, hrun, ?_, ?_⟩
            · have hl : (μ ++ [(⟨w.heap.size, 0, 1, (n.ev Φ ρ).toNat, false, []⟩ : Loc), ⟨w.heap.size, 0, 0, 0, false, [w.heap.size]⟩])[s.m.o.length]? = some ⟨w.heap.size, 0, 1, (n.ev Φ ρ).toNat, false, []⟩ := by
                rw [← hM.len, List.getElem?_append_right (Nat.le_refl _)]; simp
              have := den_vs_mk (Φ := Φ) (ρ := ρ) (lo := .c 0) (len := mkLen 60 (mkRep n [])) (cap := none) hl (by simp) (by rw [hev]; exact hn0) (by rw [hev]; simp only [vcap, ev_c]; omega) (by simp only [vcap, ev_c]; omega) (by simp)
              simp only [den]
              rw [this, hev]
              simp only [vcap, ev_c, Int.sub_zero, Int.toNat_natCast, Int.toNat_zero, vsVal, Bool.false_eq_true, if_false, Nat.zero_mul, Nat.add_zero, ite_self]
            · have e1 : μ ++ [(⟨w.heap.size, 0, 1, (n.ev Φ ρ).toNat, false, []⟩ : Loc), ⟨w.heap.size, 0, 0, 0, false, [w.heap.size]⟩] = μ ++ [⟨w.heap.size, 0, 1, (n.ev Φ ρ).toNat, false, []⟩] ++ [⟨w.heap.size, 0, 0, 0, false, [w.heap.size]⟩] := by simp
              rw [e1]
              exact h2
          · refine ⟨⟨w.heap.size, 0, 1, (n.ev Φ ρ).toNat, false, []⟩, get_app hl0, ?_⟩
            simp only
            refine ⟨rfl, rfl, by simp, by rw [hlen]; exact Nat.le_refl _, hmx, madeCells (Value.slice none 0 0).cells ((n.ev Φ ρ).toNat * info.size), List.replicate (n.ev Φ ρ).toNat (nilLoc k), heap_alloc_new w _, by simp [size_madeCells, hsz], by rw [hlen]; simp, (fun x hx => by cases hx), fun i row li hi hli => ?_, fun i j li lj b hi hj _ hb _ => ?_⟩
            · rw [ev_mkRep, List.getElem?_replicate] at hi
              rw [List.getElem?_replicate] at hli
              split at hi
              case isFalse => cases hi
              rename_i hil
              rw [if_pos hil] at hli
              simp only [Option.some.injEq, List.map_nil] at hi hli
              subst hi; subst hli
              refine ⟨?_, fun _ => ⟨by rw [chunkN_nil]; exact rep_nil hk1, by simp [nilLoc]⟩⟩
              rw [chunkN_nil]
              rw [hz, hsz, Nat.mul_one]
              simp [madeCells, hil, vsVal, nilLoc, Nat.mod_one]
            · rw [List.getElem?_replicate] at hi
              split at hi
              case isFalse => cases hi
              simp only [Option.some.injEq] at hi
              subst hi
              simp [nilLoc] at hb
        · cases h
      · cases h
    · cases h
  · cases h

/-! ### a row more -/
/-- append of one-cell values, wherever they come to lie. -/
theorem append_vals {t ty e : TypeId} {VA VS : List Value} {l : Loc} {i : TypeInfo} {z : Value} {ad : Addr} {cap : Nat}
    (hcap : VA.length ≤ l.cap) (hmx : l.cap ≤ maxLen) (hstr : l.str = 1)
    (hl : if l.nl then l.cap = 0 else ∃ cs : Array Value, w.heap[l.blk]? = some (.cells cs e (0, 0)) ∧ l.base + l.cap ≤ cs.size ∧ ∀ (j : Nat) (v : Value), VA[j]? = some v → cs[l.base + j]? = some v)
    (hS : ∀ (j : Nat) (u : Value), VS[j]? = some u → w.cell? (ad.add j) = some u) (hpos : 0 < VS.length) (hS1 : ∀ u ∈ VS, u.oneCell' = true)
    (ht : P.underlying t = some (.slice e)) (hi : P.info? e = some i) (hz : i.zero = some z) (hsz : i.size = 1) (hzs : z.cells.size = 1)
    (hb : (VA.length + VS.length) * i.bytes ≤ 140737488355328) (hm : VA.length + VS.length ≤ maxLen) :
    ∃ w' l', (Builtin.append_ #[t, t] ty #[vsVal l 0 VA.length l.cap, .slice (some ad) VS.length cap]).run P w = .ok (vsVal l' 0 (VA.length + VS.length) l'.cap) w' ∧
      l'.str = 1 ∧ l'.nl = false ∧ l'.own = [] ∧ VA.length + VS.length ≤ l'.cap ∧ l'.cap ≤ maxLen ∧ ((l.nl = false ∧ l'.blk = l.blk) ∨ l'.blk = w.heap.size) ∧ l'.blk < w'.heap.size ∧
      (∃ cs : Array Value, w'.heap[l'.blk]? = some (.cells cs e (0, 0)) ∧ l'.base + l'.cap ≤ cs.size ∧ ∀ (j : Nat) (v : Value), (VA ++ VS)[j]? = some v → cs[l'.base + j]? = some v) ∧
      (∀ b, b < w.heap.size → b ≠ l'.blk → w'.heap[b]? = w.heap[b]?) ∧ w.heap.size ≤ w'.heap.size ∧ (w'.os = w.os ∧ w'.tape = w.tape ∧ w'.output = w.output) := by
  have hSl : VS.length = VS.length * i.size := by rw [hsz, Nat.mul_one]
  have hAl : VA.length = VA.length * i.size := by rw [hsz, Nat.mul_one]
  have hf := run_firstCells_some (P := P) w i.size VS.length ad VS.length cap _ hSl hS
  have grown : ∀ (old : Nat) (need : Nat), need = VA.length + VS.length →
      (∃ cs : Array Value, (w.drew.alloc (.cells (VA.toArray ++ VS.toArray ++ Builtin.zeroCells z.cells (grownCap w need old e - need)) e)).heap[w.heap.size]? = some (.cells cs e (0, 0)) ∧
        0 + grownCap w need old e ≤ cs.size ∧ ∀ (j : Nat) (v : Value), (VA ++ VS)[j]? = some v → cs[0 + j]? = some v) ∧ need ≤ grownCap w need old e ∧ grownCap w need old e ≤ maxLen := by
    intro old need hneed
    have hge := grownCap_ge w need old e
    have hcm : grownCap w need old e ≤ maxLen := grownCap_le_maxLen w need old e (by omega)
    refine ⟨⟨_, heap_alloc_new w.drew _, ?_, fun j v hv => ?_⟩, hge, hcm⟩
    · simp only [Nat.zero_add, Array.size_append, List.size_toArray, size_zeroCells, hzs, Nat.mul_one]
      omega
    · rw [Nat.zero_add, Array.getElem?_append_left (by have := (List.getElem?_eq_some_iff.1 hv).1; simpa using this)]
      rw [List.append_toArray]
      simpa using hv
  by_cases hnl : l.nl = true
  · rw [if_pos hnl] at hl
    have hA : VA = [] := List.eq_nil_of_length_eq_zero (by omega)
    subst hA
    have hr := run_append_nil (P := P) w t ty e i z ht hi hz ad VS.length cap _ hSl hS hpos (by simp only [maxLen] at hm; simp at hm; omega) (by simp at hb; omega)
    obtain ⟨hg, hge, hcm⟩ := grown 0 VS.length (by simp)
    simp only [List.nil_append, Array.empty_append, Nat.zero_add, List.length_nil] at hg hr ⊢
    refine ⟨_, ⟨w.heap.size, 0, 1, grownCap w VS.length 0 e, false, []⟩, ?_, rfl, rfl, rfl, hge, hcm, .inr rfl, by simp, by simpa using hg, fun b hb _ => heap_alloc_lt w.drew _ hb, by simp, ⟨rfl, rfl, rfl⟩⟩
    unfold vsVal
    rw [if_pos hnl]
    simpa using hr
  · rw [if_neg hnl] at hl
    have hnl' : l.nl = false := by simpa using hnl
    obtain ⟨cs, hc, hcs, hcell⟩ := hl
    have holds : ∀ (j : Nat) (u : Value), VA[j]? = some u → w.cell? ((⟨l.blk, l.base, none⟩ : Addr).add j) = some u := by
      intro j u hu
      rw [add_eq _ rfl]
      simp only [World.cell?, hc]
      exact hcell j u hu
    have hv : vsVal l 0 VA.length l.cap = .slice (some ⟨l.blk, l.base, none⟩) VA.length l.cap := by
      unfold vsVal; rw [if_neg hnl]; simp
    by_cases hroom : VA.length + VS.length ≤ l.cap
    · have hfit : l.base + VA.length * i.size + VS.length ≤ cs.size := by rw [hsz, Nat.mul_one]; omega
      have hst := run_storeCells_at P l.blk (l.base + VA.length * i.size) e VS 0 cs w hc (by simpa using hfit) hS1
      simp only [Nat.add_zero] at hst
      have hlt : l.blk < w.heap.size := (Array.getElem?_eq_some_iff.1 hc).1
      refine ⟨w.setRow l.blk (cs.toList.take (l.base + VA.length * i.size) ++ VS ++ cs.toList.drop (l.base + VA.length * i.size + VS.length)).toArray, { l with own := [] }, ?_, hstr, hnl', rfl, hroom, hmx, .inl ⟨hnl', rfl⟩, by rw [setRow_size]; exact hlt, ?_, fun b hb hne => ?_, by rw [setRow_size]; exact Nat.le_refl _, ⟨rfl, rfl, rfl⟩⟩
      · have hv' : vsVal { l with own := [] } 0 (VA.length + VS.length) l.cap = .slice (some ⟨l.blk, l.base, none⟩) (VA.length + VS.length) l.cap := by
          unfold vsVal; rw [if_neg hnl]; simp
        rw [hv, hv']
        simp [Builtin.append_, run_underlying ht, sizeOf, typeInfo, hi, Builtin.lenOf, hroom, hf, Addr.add_lit, hst]
      · refine ⟨_, setRow_heap w l.blk _ _ e _ hc, ?_, fun j v hv => ?_⟩
        · simp only [List.size_toArray, List.length_append, List.length_take, List.length_drop, Array.length_toList]
          omega
        · rw [hsz, Nat.mul_one] at *
          have hmin : min (l.base + VA.length) cs.size = l.base + VA.length := by omega
          rcases Nat.lt_or_ge j VA.length with hj | hj
          · rw [List.getElem?_append_left hj] at hv
            simp only [List.getElem?_toArray]
            rw [List.append_assoc, List.getElem?_append_left (by simp [hmin]; omega), List.getElem?_take, if_pos (by omega)]
            simpa using hcell j v hv
          · rw [List.getElem?_append_right hj] at hv
            simp only [List.getElem?_toArray]
            rw [List.append_assoc, List.getElem?_append_right (by simp [hmin]; omega)]
            simp only [List.length_take, Array.length_toList, hmin]
            rw [List.getElem?_append_left (by have := (List.getElem?_eq_some_iff.1 hv).1; omega), show l.base + j - (l.base + VA.length) = j - VA.length by omega]
            exact hv
      · exact setRow_heap_other w _ _ hne
    · have hr := run_append_grow (P := P) w t ty e i z ht hi hz ⟨l.blk, l.base, none⟩ VA.length l.cap _ hAl holds ad VS.length cap _ hSl hS (by omega) (by simp only [maxLen] at hm; omega) (growslice_fits (by omega) hb)
      obtain ⟨hg, hge, hcm⟩ := grown l.cap (VA.length + VS.length) rfl
      refine ⟨_, ⟨w.heap.size, 0, 1, grownCap w (VA.length + VS.length) l.cap e, false, []⟩, ?_, rfl, rfl, rfl, hge, hcm, .inr rfl, by simp, hg, fun b hb _ => heap_alloc_lt w.drew _ hb, by simp, ⟨rfl, rfl, rfl⟩⟩
      rw [hv, hr]
      unfold vsVal
      simp

/-- One row more: what lies behind the last one is a table of its own. -/
theorem RepLists.snoc {k : List CK} {ety oty : TypeId} {A S : Tab} {lm lj : Loc} {own : List Nat} (h : RepLists k ety oty A w lm own none) (hroom : A.length + 1 ≤ lm.cap)
    (hcell : ∀ cs : Array Value, w.heap[lm.blk]? = some (.cells cs oty (0, 0)) → cs[lm.base + A.length]? = some (vsVal lj 0 S.length lj.cap)) (hS : RepVec k ety S w lj) (hd : ∀ b ∈ lj.own, b ∉ own)
    (own' : List Nat) (ho : ∀ b, b ∈ own' ↔ b ∈ own ∨ b ∈ lj.own) : RepLists k ety oty (A ++ [flatN k.length S]) w lm own' none := by
  obtain ⟨h1, h2, h3, h4, h5, cs, ls, h6, h7, h8, h9, h10, h11⟩ := h
  have geti : ∀ {i : Nat} {li : Loc}, (ls ++ [lj])[i]? = some li → (i = A.length ∧ li = lj) ∨ (i < A.length ∧ ls[i]? = some li) := by
    intro i li hi
    rcases Nat.lt_or_ge i ls.length with hlt | hge
    · rw [List.getElem?_append_left hlt] at hi; exact .inr ⟨by omega, hi⟩
    · rw [List.getElem?_append_right hge] at hi
      have hlt := (List.getElem?_eq_some_iff.1 hi).1
      simp at hlt
      have : i = ls.length := by omega
      subst this
      simp at hi
      exact .inl ⟨by omega, hi.symm⟩
  have old : ∀ {i : Nat} {li : Loc} {b : Nat}, i < A.length → ls[i]? = some li → b ∈ li.own → b ∈ own ∧ b ≠ lm.blk := by
    intro i li b hi hli hb
    exact ((h10 i _ li (List.getElem?_eq_getElem hi) hli).2 (fun x hx => by cases hx)).2 b hb
  refine ⟨h1, h2, (ho _).2 (.inl h3), by simpa using hroom, h5, cs, ls ++ [lj], h6, h7, by simp [h8], (fun x hx => by cases hx), fun i row li hi hli => ?_, fun i j li lj' b hi hj _ hbi hbj => ?_⟩
  · rcases geti hli with ⟨rfl, rfl⟩ | ⟨hlt, hli'⟩
    · rw [List.getElem?_append_right (Nat.le_refl _)] at hi
      simp at hi; subst hi
      refine ⟨by rw [col_head hS.2.1 hS.2.2.1]; exact hcell cs h6, fun _ => ⟨by rw [col_head hS.2.1 hS.2.2.1]; exact hS, fun b hb => ⟨(ho b).2 (.inr hb), fun e => hd b hb (by rw [e]; exact h3)⟩⟩⟩
    · rw [List.getElem?_append_left hlt] at hi
      obtain ⟨k1, k2⟩ := h10 i row li hi hli'
      obtain ⟨k3, k4⟩ := k2 (fun x hx => by cases hx)
      exact ⟨k1, fun _ => ⟨k3, fun b hb => ⟨(ho b).2 (.inl (k4 b hb).1), (k4 b hb).2⟩⟩⟩
  · rcases geti hi with ⟨rfl, rfl⟩ | ⟨hni, hi'⟩ <;> rcases geti hj with ⟨rfl, rfl⟩ | ⟨hnj, hj'⟩
    · rfl
    · exact absurd (old hnj hj' hbj).1 (hd b hbi)
    · exact absurd (old hni hi' hbi).1 (hd b hbj)
    · exact h11 i j li lj' b hi' hj' (fun x hx => by cases hx) hbi hbj
/-- The outer slice comes to lie somewhere else, with more room. -/
theorem RepLists.regrow {k : List CK} {ety oty : TypeId} {A : Tab} {w' : World} {lm lm' : Loc} {own : List Nat} (h : RepLists k ety oty A w lm own none) {VA VS : List Value}
    (hVA : ∀ cs : Array Value, w.heap[lm.blk]? = some (.cells cs oty (0, 0)) → ∀ i, i < A.length → VA[i]? = cs[lm.base + i]?) (g1 : lm'.str = 1) (g2 : lm'.nl = false) (g3 : A.length ≤ lm'.cap) (g4 : lm'.cap ≤ maxLen)
    (g5 : lm'.blk = lm.blk ∨ ∀ b ∈ own, b ≠ lm'.blk) (g6 : ∃ cs : Array Value, w'.heap[lm'.blk]? = some (.cells cs oty (0, 0)) ∧ lm'.base + lm'.cap ≤ cs.size ∧ ∀ (j : Nat) (v : Value), (VA ++ VS)[j]? = some v → cs[lm'.base + j]? = some v)
    (g7 : ∀ b ∈ own, b ≠ lm'.blk → w'.heap[b]? = w.heap[b]?) (own' : List Nat) (ho : ∀ b, b ∈ own' ↔ b ∈ own ∨ b = lm'.blk) : RepLists k ety oty A w' lm' own' none := by
  obtain ⟨h1, h2, h3, h4, h5, cs, ls, h6, h7, h8, h9, h10, h11⟩ := h
  obtain ⟨cs', c1, c2, c3⟩ := g6
  have hne : ∀ b ∈ own, b ≠ lm.blk → b ≠ lm'.blk := fun b hb hb' e => by
    rcases g5 with g | g
    · exact hb' (by rw [e, g])
    · exact g b hb e
  refine ⟨g1, g2, (ho _).2 (.inr rfl), g3, g4, cs', ls, c1, c2, h8, (fun x hx => by cases hx), fun i row li hi hli => ?_, h11⟩
  obtain ⟨k1, k2⟩ := h10 i row li hi hli
  obtain ⟨k3, k4⟩ := k2 (fun x hx => by cases hx)
  have hil := (List.getElem?_eq_some_iff.1 hi).1
  have hv := hVA cs h6 i hil
  rw [k1] at hv
  refine ⟨c3 i _ ?_, fun _ => ⟨k3.stays fun b hb => g7 b (k4 b hb).1 (hne b (k4 b hb).1 (k4 b hb).2), fun b hb => ⟨(ho b).2 (.inl (k4 b hb).1), hne b (k4 b hb).1 (k4 b hb).2⟩⟩⟩
  have hvl := (List.getElem?_eq_some_iff.1 hv).1
  rw [List.getElem?_append_left hvl]; exact hv

/-- The outer slice is laid anew, with room for one row more: its place, and the slices. -/
def growM (m : Mem) (xo : Option Nat) (k : List CK) (e2 e : TypeId) (n : SI) : Option (Mem × SL) :=
  match xo with
  | none => some ({ m with o := (m.o ++ [.dead]) ++ [.lists m.o.length k e2 e (.lit []) none], wr := m.wr }, .lit [])
  | some x => match m.o[x]? with
    | some (.lists mid k' e2' e' A none) => if decide (k' = k) && (decide (e2' = e2) && (decide (e' = e) && SI.same n (mkLen 60 A))) then
        some ({ m with o := (m.o ++ [AObj.dead]).set x .dead ++ [.lists m.o.length k e2 e A none], wr := (m.o ++ [AObj.dead]).length :: x :: m.wr }, A) else none
    | _ => none
theorem growM_ok {m m1 : Mem} (hM : MRel Φ ρ μ B m w) {xo : Option Nat} {k : List CK} {e2 e : TypeId} {n : SI} {A : SL} (h : growM m xo k e2 e n = some (m1, A)) {vx u : Value} {bb bo cap : Nat} {t ty : TypeId} {i : TypeInfo} {z : Value}
    (hxo : (xo = none ∧ vx = .slice none 0 0) ∨ ∃ x id lm k' e' ot A' op, xo = some x ∧ m.o[x]? = some (.lists id k' e' ot A' op) ∧ μ[id]? = some lm ∧ vx = vsVal lm 0 (n.ev Φ ρ).toNat lm.cap)
    (hS : w.cell? ⟨bb, bo, none⟩ = some u) (hS1 : u.oneCell' = true) (ht : P.underlying t = some (.slice e)) (hi : P.info? e = some i) (hz : i.zero = some z) (hsz : i.size = 1) (hzs : z.cells.size = 1)
    (hb : ((A.ev Φ ρ).length + 1) * i.bytes ≤ 140737488355328) (hm : (A.ev Φ ρ).length + 1 ≤ maxLen) :
    ∃ w' l' lx, (Builtin.append_ #[t, t] ty #[vx, .slice (some ⟨bb, bo, none⟩) 1 cap]).run P w = .ok (vsVal l' 0 ((A.ev Φ ρ).length + 1) l'.cap) w' ∧ MRel Φ ρ (μ ++ [l', lx]) B m1 w' ∧ m1.o.length = m.o.length + 2 ∧
      m1.o[m.o.length + 1]? = some (.lists m.o.length k e2 e A none) ∧ (A.ev Φ ρ).length + 1 ≤ l'.cap ∧ l'.nl = false ∧ (∀ cs : Array Value, w'.heap[l'.blk]? = some (.cells cs e (0, 0)) → cs[l'.base + (A.ev Φ ρ).length]? = some u) ∧
      (∀ (j : Nat) (o : AObj), m.o[j]? = some o → (∀ c q r s a b, o ≠ AObj.lists c q r s a b) → m1.o[j]? = some o) := by
  have hSs : ∀ (j : Nat) (v : Value), ([u] : List Value)[j]? = some v → w.cell? ((⟨bb, bo, none⟩ : Addr).add j) = some v := by
    intro j v hv
    rcases j with _ | j
    · rw [add_eq _ rfl]; simp at hv; subst hv; simpa using hS
    · simp at hv
  cases xo with
  | none =>
    simp only [growM]  at h
    simp only [Option.some.injEq, Prod.mk.injEq] at h
    obtain ⟨rfl, rfl⟩ := h
    have hvx : vx = vsVal (nilLoc [CK.b]) 0 ([] : List Value).length (nilLoc [CK.b]).cap := by
      rcases hxo with ⟨_, rfl⟩ | ⟨x, id, lm, _, _, _, _, _, hx, _⟩
      · simp [vsVal, nilLoc]
      · cases hx
    subst hvx
    have hA0 : (SL.lit []).ev Φ ρ = [] := rfl
    simp only [hA0, List.length_nil, Nat.zero_add] at hb hm ⊢
    obtain ⟨w', l', hrun, g1, g2, g3, g4, g5, g6, g7, ⟨cs, c1, c2, c3⟩, g9, g10, g11⟩ := append_vals (P := P) (w := w) (t := t) (ty := ty) (VA := []) (VS := [u]) (l := nilLoc [CK.b]) (cap := cap) (by simp [nilLoc]) (by simp [nilLoc, maxLen]) (by simp [nilLoc]) (by simp [nilLoc]) hSs (by simp) (by simpa using hS1) ht hi hz hsz hzs (by simpa using hb) (by simpa using hm)
    have hblk : l'.blk = w.heap.size := by
      rcases g6 with ⟨hn, _⟩ | hn
      · simp [nilLoc] at hn
      · exact hn
    have h1 := hM.push (o := .dead) (l := l') (w' := w) (fun _ _ => rfl) (Nat.le_refl _) ⟨rfl, rfl, rfl⟩ (by simp [g3]) trivial
    have hl0 : (μ ++ [l'])[m.o.length]? = some l' := by rw [← hM.len, List.getElem?_append_right (Nat.le_refl _)]; simp
    have h2 := h1.push (o := .lists m.o.length k e2 e (.lit []) none) (l := ⟨w.heap.size, 0, 0, 0, false, [w.heap.size]⟩) (w' := w') (fun b hb => g9 b hb (by omega)) g10 g11 (by simp; omega) ?_
    · have e3 : μ ++ [l', (⟨w.heap.size, 0, 0, 0, false, [w.heap.size]⟩ : Loc)] = μ ++ [l'] ++ [⟨w.heap.size, 0, 0, 0, false, [w.heap.size]⟩] := by simp
      refine ⟨w', l', ⟨w.heap.size, 0, 0, 0, false, [w.heap.size]⟩, by simpa using hrun, by rw [e3]; exact h2, by simp, by simp [Mem.new], by simpa using g4, g2, fun cs' hcs' => ?_, fun j o hj _ => ?_⟩
      · rw [c1] at hcs'
        simp only [Option.some.injEq, Obj.cells.injEq] at hcs'
        obtain ⟨rfl, _⟩ := hcs'
        exact c3 0 u rfl
      · have hjl := (List.getElem?_eq_some_iff.1 hj).1
        rw [List.getElem?_append_left (by simp; omega), List.getElem?_append_left hjl]
        exact hj
    · refine ⟨l', get_app hl0, ?_⟩
      simp only
      refine ⟨g1, g2, by simp [hblk], by simp, g5, cs, [], c1, c2, by simp, (fun x hx => by cases hx), fun i row li hi hli => by simp at hli, fun i j li lj b hi hj _ hb _ => by simp at hi⟩
  | some x =>
    simp only [growM] at h
    split at h
    case h_2 => cases h
    rename_i mid k' e2' e' A' hox
    split at h
    case isFalse => cases h
    rename_i hc
    simp only [Bool.and_eq_true, decide_eq_true_eq] at hc
    obtain ⟨rfl, rfl, rfl, hs⟩ := hc
    simp only [Option.some.injEq, Prod.mk.injEq] at h
    obtain ⟨rfl, rfl⟩ := h
    have hn := congrArg (SI.ev Φ ρ) (SI.same_eq _ _ hs)
    rw [ev_mkLen] at hn
    rcases hxo with ⟨hx, _⟩ | ⟨x', id, lm, k0, e0, ot, A0, op, hx, hox', hlm, rfl⟩
    · cases hx
    simp only [Option.some.injEq] at hx
    subst hx
    rw [hox] at hox'
    simp only [Option.some.injEq, AObj.lists.injEq] at hox'
    obtain ⟨rfl, rfl, rfl, rfl, rfl, _⟩ := hox'
    have hxl := (List.getElem?_eq_some_iff.1 hox).1
    obtain ⟨lx, hlx⟩ : ∃ l, μ[x]? = some l := ⟨_, List.getElem?_eq_getElem (by rw [hM.len]; exact hxl)⟩
    obtain ⟨lm', hlm', hL⟩ := hM.obj x _ lx hox hlx
    rw [hlm] at hlm'
    simp only [Option.some.injEq] at hlm'
    subst hlm'
    simp only at hL
    have hL0 := hL
    obtain ⟨q1, q2, q3, q4, q5, cs, ls, q6, q7, q8, q9, q10, q11⟩ := hL0
    have hVl : ((cs.toList.drop lm.base).take (A'.ev Φ ρ).length).length = (A'.ev Φ ρ).length := by simp; omega
    have hVg : ∀ i, i < (A'.ev Φ ρ).length → ((cs.toList.drop lm.base).take (A'.ev Φ ρ).length)[i]? = cs[lm.base + i]? := by
      intro i hi
      rw [List.getElem?_take, if_pos hi, List.getElem?_drop]; simp
    obtain ⟨w', l', hrun, g1, g2, g3, g4, g5, g6, g7, ⟨cs', c1, c2, c3⟩, g9, g10, g11⟩ := append_vals (P := P) (w := w) (t := t) (ty := ty) (VA := (cs.toList.drop lm.base).take (A'.ev Φ ρ).length) (VS := [u]) (l := lm) (cap := cap) (by rw [hVl]; exact q4) q5 q1
      (by rw [if_neg (by simp [q2])]; exact ⟨cs, q6, q7, fun j v hv => by
        have hj := (List.getElem?_eq_some_iff.1 hv).1
        rw [← hVg j (by omega)]; exact hv⟩) hSs (by simp) (by simpa using hS1) ht hi hz hsz hzs (by rw [hVl]; simpa using hb) (by rw [hVl]; simpa using hm)
    rw [hVl] at hrun g4
    have hltx := hM.lt x _ lx hox rfl hlx
    have h1 := hM.push (o := .dead) (l := l') (w' := w) (fun _ _ => rfl) (Nat.le_refl _) ⟨rfl, rfl, rfl⟩ (by simp [g3]) trivial
    have hl0 : (μ ++ [l'])[m.o.length]? = some l' := by rw [← hM.len, List.getElem?_append_right (Nat.le_refl _)]; simp
    have hox1 : (m.new .dead).2.o[x]? = some (.lists mid k' e2' e' A' none) := by
      simp only [Mem.new]; rw [List.getElem?_append_left hxl]; exact hox
    have h2 := h1.move (o' := .lists m.o.length k' e2' e' A' none) (l' := ⟨0, 0, 0, 0, false, lx.own ++ [l'.blk]⟩) (w' := w') hox1 rfl (get_app hlx) (fun b hb hbo => g9 b hb (fun e => by
        rcases g6 with ⟨_, h6⟩ | h6
        · exact hbo (by rw [e, h6]; exact q3)
        · omega)) g10 g11 (fun b hb => by
        simp only [List.mem_append, List.mem_singleton] at hb
        rcases hb with hb | rfl
        · exact ⟨.inl hb, Nat.lt_of_lt_of_le (hltx b hb) g10⟩
        · refine ⟨?_, g7⟩
          rcases g6 with ⟨_, h6⟩ | h6
          · rw [h6]; exact .inl q3
          · rw [h6]; exact .inr (Nat.le_refl _)) ?_
    · have e3 : μ ++ [l', (⟨0, 0, 0, 0, false, lx.own ++ [l'.blk]⟩ : Loc)] = μ ++ [l'] ++ [⟨0, 0, 0, 0, false, lx.own ++ [l'.blk]⟩] := by simp
      refine ⟨w', l', ⟨0, 0, 0, 0, false, lx.own ++ [l'.blk]⟩, by rw [hn]; simpa [hVl] using hrun, by rw [e3]; exact h2, by simp, by simp, by simpa using g4, g2, fun cs2 hcs2 => ?_, fun j o hj hno => ?_⟩
      · rw [c1] at hcs2
        simp only [Option.some.injEq, Obj.cells.injEq] at hcs2
        obtain ⟨rfl, _⟩ := hcs2
        exact c3 _ u (by rw [List.getElem?_append_right (by omega), hVl]; simp)
      · have hjl := (List.getElem?_eq_some_iff.1 hj).1
        rw [List.getElem?_append_left (by simp; omega), List.getElem?_set_ne (fun e => by subst e; rw [hox] at hj; simp at hj; exact hno _ _ _ _ _ _ hj.symm), List.getElem?_append_left hjl]
        exact hj
    · refine ⟨l', get_app hl0, ?_⟩
      simp only
      refine hL.regrow (VA := (cs.toList.drop lm.base).take (A'.ev Φ ρ).length) (VS := [u]) (fun cs0 hcs0 i hi => ?_) g1 g2 (by omega) g5 ?_ ⟨cs', c1, c2, c3⟩ (fun b hb hne => g9 b (hltx b hb) hne) _ (by simp)
      · rw [q6] at hcs0
        simp only [Option.some.injEq, Obj.cells.injEq] at hcs0
        obtain ⟨rfl, _⟩ := hcs0
        exact hVg i hi
      · rcases g6 with ⟨_, h6⟩ | h6
        · exact .inl h6
        · exact .inr fun b hb e => by have := hltx b hb; omega
def addRow (n : Nat) (A S : SL) : SL := mkSetN n (mkCat A (.lit [[]])) (mkLen 60 A) S
theorem ev_addRow (n : Nat) (A S : SL) : (addRow n A S).ev Φ ρ = A.ev Φ ρ ++ [flatN n (S.ev Φ ρ)] := by
  unfold addRow
  rw [ev_mkSetN, ev_mkCat, ev_mkLen]
  simp [setN, List.set_append_right]
/-- What is appended: a table of its own. -/
def rowOf (P : Program) (m : Mem) (t : TypeId) (y : AV) : Option (Nat × List CK × TypeId × TypeId × Nat × SL) :=
  match P.underlying t, y with
  | some (.slice e), .cv (.sl (some p) (.c (.ofNat 1)) _) => match m.o[p.id]?, P.info? e, P.underlying e with
    | some (.cells [.vs j (.c 0) n none] _), some info, some (.slice e2) => match flat P 5 e2, info.zero, p.r, p.j with
      | some k, some (.slice none 0 0), .c 0, 0 => match vecAt m j k e2 with
        | some S => if SI.same n (mkLen 60 S) && Nat.beq info.size 1 then some (j, k, e2, e, info.bytes, S) else none
        | none => none
      | _, _, _, _ => none
    | _, _, _ => none
  | _, _ => none
def ontoOf (m : Mem) (x : AV) : Option (Option Nat × SI) :=
  match x with
  | .cv (.sl none _ _) => some (none, .c 0)
  | .cv (.vs id (.c 0) n none) => (listAt m id).map fun x => (some x, n)
  | _ => none
def listAppend (P : Program) (s : St) (pc : List SB) (t : TypeId) (x y : AV) : Outs :=
  match rowOf P s.m t y, ontoOf s.m x with
  | some (j, k, e2, e, by', S), some (xo, n) => match growM s.m xo k e2 e n with
    | some (m1, A) => if fits pc (mkLen 60 (mkCat A (.lit [[]]))) by' 140737488355328 && !Nat.beq j (m1.o.length - 1) then
        some [(pc, some (.cv (.vs s.m.o.length (.c 0) (mkLen 60 (addRow k.length A S)) none), joinM m1 (m1.o.length - 1) j (.lists s.m.o.length k e2 e (addRow k.length A S) none)))] else none
    | none => none
  | _, _ => none

theorem rowOf_ok (hM : MRel Φ ρ μ B s.m w) {t : TypeId} {y : AV} {vy : Value} {j by' : Nat} {k : List CK} {e2 e : TypeId} {S : SL} (h : rowOf P s.m t y = some (j, k, e2, e, by', S)) (hy : den Φ ρ μ y = some vy) :
    ∃ info lj bb bo cap, P.underlying t = some (.slice e) ∧ P.info? e = some info ∧ info.zero = some (.slice none 0 0) ∧ info.size = 1 ∧ info.bytes = by' ∧ s.m.o[j]? = some (.abs (.vec k e2) S) ∧ μ[j]? = some lj ∧
      vy = .slice (some ⟨bb, bo, none⟩) 1 cap ∧ w.cell? ⟨bb, bo, none⟩ = some (vsVal lj 0 (S.ev Φ ρ).length lj.cap) := by
  unfold rowOf at h
  split at h
  case h_2 => cases h
  rename_i e' p cc hu
  split at h
  case h_2 => cases h
  rename_i j' n ty info e2' ho hi he2
  split at h
  case h_2 => cases h
  rename_i k' hfl hz hr hj
  split at h
  case h_2 => cases h
  rename_i S' hv
  split at h
  case isFalse => cases h
  rename_i hc
  simp only [Bool.and_eq_true] at hc
  obtain ⟨hs, hsz⟩ := hc
  have hsz := Nat.eq_of_beq_eq_true hsz
  simp only [Option.some.injEq, Prod.mk.injEq] at h
  obtain ⟨rfl, rfl, rfl, rfl, rfl, rfl⟩ := h
  have hn := congrArg (SI.ev Φ ρ) (SI.same_eq _ _ hs)
  rw [ev_mkLen] at hn
  simp only [den, denC] at hy
  split at hy
  case isFalse => cases hy
  simp only [Option.map_eq_some_iff] at hy
  obtain ⟨ad, had, rfl⟩ := hy
  unfold denPt at had
  cases hl : μ[p.id]? with
  | none => rw [hl] at had; cases had
  | some l =>
    rw [hl] at had
    simp only at had
    split at had
    case isFalse => cases had
    simp only [Option.some.injEq] at had; subst had
    obtain ⟨k1, k2, k3, vs, k4, k5⟩ := hM.obj _ _ l ho hl
    simp only [denL] at k4
    split at k4
    case h_2 => cases k4
    rename_i v vs' hd hnil
    simp only [Option.some.injEq] at k4 hnil
    subst hnil; subst k4
    obtain ⟨lj, hlj, _, _, _, _, _, rfl⟩ := den_vs hd
    refine ⟨info, lj, l.blk, _, _, hu, hi, hz, hsz, rfl, vecAt_ok hv, hlj, rfl, ?_⟩
    rw [hr, hj, k1]
    simp only [World.cell?, k5]
    simp [vcap, hn]
theorem listAppend_ok (hM : MRel Φ ρ μ B s.m w) (hp : holds Φ ρ pc) {t ty : TypeId} {x y : AV} {vx vy : Value} {outs : List (List SB × Option (AV × Mem))} (h : listAppend P s pc t x y = some outs) (hx : den Φ ρ μ x = some vx) (hy : den Φ ρ μ y = some vy) :
    ∃ v m' ν w' u, outs = [(pc, some (v, m'))] ∧ (Builtin.append_ #[t, t] ty #[vx, vy]).run P w = .ok u w' ∧ den Φ ρ (μ ++ ν) v = some u ∧ MRel Φ ρ (μ ++ ν) B m' w' := by
  unfold listAppend at h
  split at h
  case h_2 => cases h
  rename_i j k e2 e by' S xo n hrow honto
  split at h
  case h_2 => cases h
  rename_i m1 A hg
  split at h
  case isFalse => cases h
  rename_i hc
  simp only [Option.some.injEq] at h; subst h
  simp only [Bool.and_eq_true, Bool.not_eq_true'] at hc
  obtain ⟨hf, hne⟩ := hc
  obtain ⟨info, lj, bb, bo, cap, hu, hi, hz, hsz, rfl, hoj, hlj, rfl, hcell⟩ := rowOf_ok hM hrow hy
  have hev : (mkLen 60 (mkCat A (.lit [[]]))).ev Φ ρ = ((A.ev Φ ρ).length : Int) + 1 := by
    rw [ev_mkLen, ev_mkCat]; simp
  obtain ⟨hb, hmx⟩ := fits_ok hp hf (by rw [hev]; omega)
  rw [hev, show (((A.ev Φ ρ).length : Int) + 1).toNat = (A.ev Φ ρ).length + 1 by omega] at hb hmx
  have hxo : (xo = none ∧ vx = .slice none 0 0) ∨ ∃ x id lm k' e' ot A' op, xo = some x ∧ s.m.o[x]? = some (.lists id k' e' ot A' op) ∧ μ[id]? = some lm ∧ vx = vsVal lm 0 (n.ev Φ ρ).toNat lm.cap := by
    unfold ontoOf at honto
    split at honto
    · simp only [Option.some.injEq, Prod.mk.injEq] at honto
      obtain ⟨rfl, rfl⟩ := honto
      refine .inl ⟨rfl, ?_⟩
      simp only [den, denC] at hx
      split at hx
      · simpa using hx.symm
      · cases hx
    · rename_i id n'
      simp only [Option.map_eq_some_iff, Prod.mk.injEq] at honto
      obtain ⟨x', hx', rfl, rfl⟩ := honto
      obtain ⟨k', e', ot, A', op, hox⟩ := listAt_ok hx'
      obtain ⟨lm, hlm, _, _, _, _, _, rfl⟩ := den_vs hx
      refine .inr ⟨x', id, lm, k', e', ot, A', op, rfl, hox, hlm, ?_⟩
      simp [vcap]
    · cases honto
  have hone : (vsVal lj 0 (S.ev Φ ρ).length lj.cap).oneCell' = true := by unfold vsVal; split <;> rfl
  obtain ⟨w', l', lx, hrun, hM1, hlen, hox, hcap, hnl, hcs, hkeep⟩ := growM_ok (ty := ty) (cap := cap) hM hg hxo hcell hone hu hi hz hsz rfl hb hmx
  have hoj1 := hkeep j _ hoj (fun _ _ _ _ _ _ e => by cases e)
  have hl0 : (μ ++ [l', lx])[s.m.o.length]? = some l' := by rw [← hM.len, List.getElem?_append_right (Nat.le_refl _)]; simp
  have hlx : (μ ++ [l', lx])[s.m.o.length + 1]? = some lx := by rw [← hM.len, List.getElem?_append_right (by omega)]; simp
  have hlj1 : (μ ++ [l', lx])[j]? = some lj := get_app hlj
  have e1 : m1.o.length - 1 = s.m.o.length + 1 := by omega
  have hne' : s.m.o.length + 1 ≠ j := by have := (List.getElem?_eq_some_iff.1 hoj).1; omega
  obtain ⟨lm, hlm, hL⟩ := hM1.obj _ _ lx hox hlx
  rw [hl0] at hlm
  simp only [Option.some.injEq] at hlm
  subst hlm
  simp only at hL
  have hR : RepVec k e2 (S.ev Φ ρ) w' lj := hM1.obj j _ lj hoj1 hlj1
  have hJ := hM1.join (l := ⟨0, 0, 0, 0, false, lx.own ++ lj.own⟩) (o := .lists s.m.o.length k e2 e (addRow k.length A S) none) hne' hox rfl hlx hoj1 rfl hlj1 (fun _ _ _ => rfl) (Nat.le_refl _) ⟨rfl, rfl, rfl⟩ (fun b hb => by simpa using hb) ?_
  · refine ⟨_, _, [l', lx, ⟨0, 0, 0, 0, false, lx.own ++ lj.own⟩], w', _, rfl, hrun, ?_, ?_⟩
    · have hl : (μ ++ [l', lx, (⟨0, 0, 0, 0, false, lx.own ++ lj.own⟩ : Loc)])[s.m.o.length]? = some l' := by rw [← hM.len, List.getElem?_append_right (Nat.le_refl _)]; simp
      have hlen2 : (mkLen 60 (addRow k.length A S)).ev Φ ρ = ((A.ev Φ ρ).length : Int) + 1 := by rw [ev_mkLen, ev_addRow]; simp
      have := den_vs_mk (Φ := Φ) (ρ := ρ) (lo := .c 0) (len := mkLen 60 (addRow k.length A S)) (cap := none) hl (by simp) (by rw [hlen2]; omega) (by rw [hlen2]; simp only [vcap, ev_c]; omega) (by simp only [vcap, ev_c]; omega) (by simp [hnl])
      simp only [den]
      rw [this, hlen2]
      simp [vcap]
    · have e3 : μ ++ [l', lx, (⟨0, 0, 0, 0, false, lx.own ++ lj.own⟩ : Loc)] = μ ++ [l', lx] ++ [⟨0, 0, 0, 0, false, lx.own ++ lj.own⟩] := by simp
      rw [e3, e1]
      exact hJ
  · refine ⟨l', get_app hl0, ?_⟩
    simp only [ev_addRow]
    exact hL.snoc hcap (fun cs hc => hcs cs hc) hR (fun b hb hb' => hne' (hM1.apart _ j _ _ lx lj b hox hoj1 rfl rfl hlx hlj1 hb' hb)) _ (by simp)

/-! ### an array as a table -/
def arrIdx (P : Program) (s : St) (pc : List SB) (t : TypeId) (x i : AV) : Outs :=
  match P.underlying t, x, i with
  | some (.array len e), .cv (.p (some p)), .cv (.i _ n) => match s.m.o[p.id]?, p.r, p.j, tySize P e with
    | some (.abs (.vec ks _) _), .c 0, 0, some sz => if Nat.beq ks.length sz then
        some ((ways pc (mkAnd (mkLe (.c 0) n) (mkLt n (.c len)))).map fun y => (y.2, if y.1 then some (.cv (.p (some ⟨p.id, n, 0⟩)), s.m) else none)) else none
    | _, _, _, _ => none
  | _, _, _ => none
theorem arrIdx_ok (hM : MRel Φ ρ μ B s.m w) (hp : holds Φ ρ pc) {t : TypeId} {x i : AV} {vx vi : Value} {outs : List (List SB × Option (AV × Mem))} (h : arrIdx P s pc t x i = some outs)
    (hx : den Φ ρ μ x = some vx) (hi : den Φ ρ μ i = some vi) :
    (∃ pc', (pc', none) ∈ outs ∧ holds Φ ρ pc') ∨ ∃ pc' v u, (pc', some (v, s.m)) ∈ outs ∧ holds Φ ρ pc' ∧ den Φ ρ μ v = some u ∧ (Instr.indexAt t vx vi).run P w = .ok u w := by
  unfold arrIdx at h
  split at h
  case h_2 => cases h
  rename_i len e p k n hu
  split at h
  case h_2 => cases h
  rename_i ks ty A sz ho hr hj0 hsz
  split at h
  case isFalse => cases h
  rename_i hks
  have hks := Nat.eq_of_beq_eq_true hks
  simp only [Option.some.injEq] at h
  subst h
  obtain ⟨b, pc', hmem, hev, hpc'⟩ := ways_ok Φ ρ (mkAnd (mkLe (.c 0) n) (mkLt n (.c len))) hp
  cases b with
  | false => exact .inl ⟨pc', List.mem_map.2 ⟨(false, pc'), hmem, rfl⟩, hpc'⟩
  | true =>
    right
    simp at hev
    obtain ⟨addr, haddr, rfl⟩ := den_ptr hx
    simp [den, denC] at hi
    subst hi
    unfold denPt at haddr
    cases hl : μ[p.id]? with
    | none => rw [hl] at haddr; cases haddr
    | some l =>
      rw [hl, hr, hj0] at haddr
      simp at haddr
      subst haddr
      have hR : RepVec ks ty (A.ev Φ ρ) w l := hM.obj p.id _ l ho hl
      refine ⟨pc', .cv (.p (some ⟨p.id, n, 0⟩)), .pointer (some ((⟨l.blk, l.base, none⟩ : Addr).add ((n.ev Φ ρ).toNat * sz))), List.mem_map.2 ⟨(true, pc'), hmem, rfl⟩, hpc', ?_, ?_⟩
      · simp only [den, denC, denPt, hl]
        rw [if_pos (by omega), add_eq _ rfl]
        simp [hR.1, hks]
      · have he : P.underlying t = some (.array (P.arrayLen t) (P.elem t)) := by simp [Program.elem, Program.arrayLen, hu]
        have hee : P.elem t = e := by simp [Program.elem, hu]
        have hl : P.arrayLen t = len := by simp [Program.arrayLen, hu]
        rw [run_indexAt_array w t _ k _ he, hee, hl, if_pos (by omega), run_sizeOf' hsz]
        rfl

def isFalse' : CV → Bool
  | .b (.c false) => true
  | _ => false
theorem allB_ok : ∀ {cs : List CV}, cs.all isFalse' = true → denL Φ ρ μ cs = some (List.replicate cs.length (.bool false))
  | [], _ => rfl
  | c :: cs, h => by
    simp only [List.all_cons, Bool.and_eq_true] at h
    have hc : c = .b (.c false) := by
      have := h.1
      unfold isFalse' at this
      split at this
      · rfl
      · cases this
    subst hc
    simp [denL, denC, allB_ok h.2, List.replicate_succ]
def arrAlloc (P : Program) (s : St) (t : TypeId) : Option (AV × Mem) :=
  match P.underlying t, tyZero P t with
  | some (.array n _), some (.agg cs) => if Nat.ble 17 n && (Nat.beq cs.length n && (Nat.ble n 1000 && cs.all isFalse')) then
      some (.cv (.p (some ⟨s.m.o.length, .c 0, 0⟩)), (s.m.new (.abs (.vec [.b] t) (.lit (List.replicate n [0])))).2) else none
  | _, _ => none
theorem arrAlloc_ok (hM : MRel Φ ρ μ B s.m w) {t : TypeId} {v : AV} {m : Mem} (h : arrAlloc P s t = some (v, m)) :
    ∃ ν w' x, (Instr.alloc t true (.tuple #[])).run P w = .ok x w' ∧ den Φ ρ (μ ++ ν) v = some x ∧ MRel Φ ρ (μ ++ ν) B m w' := by
  unfold arrAlloc at h
  split at h
  case h_2 => cases h
  rename_i n e cs hu hz
  split at h
  case isFalse => cases h
  rename_i hc
  simp only [Bool.and_eq_true] at hc
  obtain ⟨_, hn, hm, ha⟩ := hc
  have hn := Nat.eq_of_beq_eq_true hn
  have hm := Nat.le_of_ble_eq_true hm
  simp only [Option.some.injEq, Prod.mk.injEq] at h
  obtain ⟨rfl, rfl⟩ := h
  obtain ⟨u, hv, hrun, _⟩ := zero_ok (Φ := Φ) (ρ := ρ) (μ := μ) hz w
  simp only [den, allB_ok ha, Option.map_some, Option.some.injEq] at hv
  subst hv
  have hnew : (newVar t (.agg (List.replicate cs.length (.bool false)).toArray)).run P w = .ok ⟨w.heap.size, 0, none⟩ (w.alloc (.cells (List.replicate cs.length (.bool false)).toArray t)) := by
    simp only [newVar, newRow, newObj, Sem.run_bind]
    rfl
  have hal : (Instr.alloc t true (.tuple #[])).run P w = .ok (.pointer (some ⟨w.heap.size, 0, none⟩)) (w.alloc (.cells (List.replicate cs.length (.bool false)).toArray t)) := by
    simp only [Instr.alloc, Sem.run_bind, hrun, hnew, Result.andThen_ok, Sem.run_pure, if_true, if_pos]
  refine ⟨[⟨w.heap.size, 0, 1, n, false, [w.heap.size]⟩], _, _, hal, ?_, ?_⟩
  · have : (μ ++ [(⟨w.heap.size, 0, 1, n, false, [w.heap.size]⟩ : Loc)])[s.m.o.length]? = some ⟨w.heap.size, 0, 1, n, false, [w.heap.size]⟩ := by
      rw [← hM.len, List.getElem?_append_right (Nat.le_refl _)]; simp
    simp [den, denC, denPt, this]
  · refine hM.push (fun b hb => heap_alloc_lt w _ hb) (by rw [World.size_alloc]; omega) ⟨rfl, rfl, rfl⟩ (by simp) ?_
    show RepVec [.b] t (List.replicate n [0]) _ _
    refine ⟨rfl, by simp, fun row hr => by rw [(List.mem_replicate.1 hr).2]; exact ⟨.inl rfl, trivial⟩, by simp, by simp only [maxLen]; omega, ?_⟩
    rw [if_neg (by simp)]
    refine ⟨rfl, _, heap_alloc_new w _, by simp [hn], fun i x hx => ?_⟩
    have e : (List.replicate n [(0 : Int)]).flatMap (rowVals [.b]) = List.replicate n (.bool false) := by
      rw [List.flatMap_replicate]; simp [rowVals, ckVal]
    rw [e] at hx
    rw [hn, Nat.zero_add, List.getElem?_toArray]; exact hx

/-- One operation on slices in a slice. -/
def listOp (P : Program) (s : St) (pc : List SB) (o : Op) : Outs :=
  match o with
  | .indexAddr t x i => match opnd s x, opnd s i with
    | some x, some i => match listIdx P s pc t x i with
      | some outs => some outs
      | none => arrIdx P s pc t x i
    | _, _ => none
  | .load t x => match opnd s x with
    | some x => listLoad P s pc t x
    | none => none
  | .store t a x => match opnd s a, opnd s x with
    | some a, some x => (listStore P s pc t a x).map fun l => l.map fun y => (y.1, some (undefV, y.2))
    | _, _ => none
  | .makeSlice t n c => match opnd s n, opnd s c with
    | some n, some c => (listMake P s pc t n c).map fun v => [(pc, some v)]
    | _, _ => none
  | .call { callee := .builtin .append, args := args, argTypes := argTypes } => match args.toList, argTypes.toList with
    | [x, y], [t, t'] => match opnd s x, opnd s y with
      | some x, some y => if t = t' then listAppend P s pc t x y else none
      | _, _ => none
    | _, _ => none
  | .alloc t => (arrAlloc P s t).map fun v => [(pc, some v)]
  | _ => none
theorem list_ok (hT : TRel Φ ρ μ s.n s.t a) (hM : MRel Φ ρ μ B s.m w) (hp : holds Φ ρ pc) (o : Oper) {outs : List (List SB × Option (AV × Mem))} (h : listOp P s pc o.op = some outs) :
    ListGood Φ ρ μ P B w a o outs := by
  obtain ⟨dst, op, ty, pos, after, guard⟩ := o
  simp only at h
  unfold listOp at h
  split at h
  · rename_i t x i
    split at h
    · rename_i ax ai hx hi
      have key : (∃ pc', (pc', none) ∈ outs ∧ holds Φ ρ pc') ∨ ∃ pc' v u, (pc', some (v, s.m)) ∈ outs ∧ holds Φ ρ pc' ∧ den Φ ρ μ v = some u ∧ (Instr.indexAt t (a.eval x) (a.eval i)).run P w = .ok u w := by
        split at h
        · rename_i outs' hl
          simp only [Option.some.injEq] at h; subst h
          exact listIdx_ok hM hp hl (opnd_ok hT hx) (opnd_ok hT hi)
        · exact arrIdx_ok hM hp h (opnd_ok hT hx) (opnd_ok hT hi)
      rcases key with h1 | ⟨pc', v, u, hmem, hp', hv, hr⟩
      · exact .inl h1
      · exact .inr ⟨pc', v, s.m, [], w, u, _, hmem, hp', by simp only [execOp, Sem.run_bind, hr, Result.andThen_ok, Sem.run_pure], .inl rfl, by simpa using hv, by simpa using hM⟩
    · cases h
  · rename_i t x
    split at h
    · rename_i ax hx
      obtain ⟨v, m', ν, u, rfl, hr, hd, hM'⟩ := listLoad_ok hM hp h (opnd_ok hT hx)
      exact .inr ⟨pc, v, m', ν, w, u, _, List.mem_singleton.2 rfl, hp, by simp only [execOp, Sem.run_bind, hr, Result.andThen_ok, Sem.run_pure], .inl rfl, hd, hM'⟩
    · cases h
  · rename_i t x y
    split at h
    · rename_i ax ay hx hy
      simp only [Option.map_eq_some_iff] at h
      obtain ⟨ws, hm, rfl⟩ := h
      obtain ⟨pc', m, ν, w', hmem, hp', hr, hM'⟩ := listStore_ok hM hp hm (opnd_ok hT hx) (opnd_ok hT hy)
      exact .inr ⟨pc', undefV, m, ν, w', undef, .skip, List.mem_map.2 ⟨(pc', m), hmem, rfl⟩, hp', by simp [execOp, Sem.run_bind, hr], .inr ⟨rfl, rfl⟩, by simp [undefV, den, denT, undef], hM'⟩
    · cases h
  · rename_i t x y
    split at h
    · rename_i n c hn hc
      simp only [Option.map_eq_some_iff] at h
      obtain ⟨⟨v, m⟩, hv, rfl⟩ := h
      obtain ⟨ν, w', u, hr, hd, hM'⟩ := listMake_ok hM hp hv (opnd_ok hT hn) (opnd_ok hT hc)
      refine .inr ⟨pc, _, _, ν, w', u, _, List.mem_singleton.2 rfl, hp, ?_, .inl rfl, hd, hM'⟩
      simp only [execOp, Sem.run_bind, hr, Result.andThen_ok, Sem.run_pure]
    · cases h
  · rename_i args argTypes
    split at h
    · rename_i x y t t' hx ht
      split at h
      · rename_i ax ay hax hay
        split at h
        · rename_i htt
          subst htt
          have e1 : args = #[x, y] := Array.ext' hx
          have e2 : argTypes = #[t, t] := Array.ext' ht
          subst e1; subst e2
          obtain ⟨v, m', ν, w', u, rfl, hr, hd, hM'⟩ := listAppend_ok (ty := ty) hM hp h (opnd_ok hT hax) (opnd_ok hT hay)
          refine .inr ⟨pc, v, m', ν, w', u, _, List.mem_singleton.2 rfl, hp, ?_, .inl rfl, hd, hM'⟩
          simp [execOp, resolve, invoke, builtin, Sem.run_bind, hr]
        · cases h
      · cases h
    · cases h
  · rename_i t
    simp only [Option.map_eq_some_iff] at h
    obtain ⟨⟨v, m⟩, hv, rfl⟩ := h
    obtain ⟨ν, w', u, hr, hd, hM'⟩ := arrAlloc_ok hM hv
    refine .inr ⟨pc, _, _, ν, w', u, _, List.mem_singleton.2 rfl, hp, ?_, .inl rfl, hd, hM'⟩
    simp only [execOp, Sem.run_bind, hr, Result.andThen_ok, Sem.run_pure]
  · cases h
end
end Go.SF
