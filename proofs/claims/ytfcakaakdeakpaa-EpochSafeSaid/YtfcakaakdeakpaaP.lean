/- What the functions of chapter 10 compute, in plain Lean; and the numbers by which the machine of unknowns names them. -/
import Derived.Test.YtfcakaakdeakpaaSFSimp
namespace Go.SF.C10
open Go.SF
set_option linter.unusedVariables false

/-- What is so of every thing; of one retired two epochs ago. -/
def allP (r : List Int) : Bool := true
def oldP (now : Int) (r : List Int) : Bool := decide (IntKind.i64.wrap (r.getD 1 0 + 2) ≤ now)
/-- The keys of rows of which p is so; of those that were gone through. -/
def keyT (p : List Int → Bool) (M : Tab) : Tab := (M.filter p).map fun r => [hdK r]
def seenT (p : List Int → Bool) (M : Tab) : Tab := keyT p (M.filter fun r => decide (lastK r = 0))
/-- The way down of some's inner loop: the slice, where it stops. -/
abbrev cell (A : Tab) (i : Nat) : Int := (A.getD i []).getD 0 0
def shA : Nat → Int → Tab → Tab
  | 0, _, A => A
  | i + 1, x, A => if x < cell A i then shA i x (A.modify (i + 1) fun r => r.set 0 (cell A i)) else A
def shI : Nat → Int → Tab → Nat
  | 0, _, A => 0
  | i + 1, x, A => if x < cell A i then shI i x (A.modify (i + 1) fun r => r.set 0 (cell A i)) else i + 1
/-- All were gone through. -/
def clrAll (M : Tab) : Tab := M.map fun r => r.dropLast ++ [0]
/-- Those of which p is not so; without keys; behind New's loop; a CPU is pinned at another epoch. -/
def keepT (p : List Int → Bool) (M : Tab) : Tab := M.filter fun r => !p r
def delAll (M L : Tab) : Tab := L.foldl (fun M r => delK M (r.getD 0 0)) M
def lateB (P : Tab) (now : Int) : Bool := P.any fun r => !decide (r.getD 0 0 = -1) && !decide (r.getD 0 0 = now)
/-- Pin, Unpin, Retire: what is told, what comes of it. -/
def pinI (P : Tab) (c : Int) : Int := if c < 0 ∨ (P.length : Int) ≤ c then 2 else if cell P c.toNat = -1 then 0 else 6
def pinL (P : Tab) (c now : Int) : Tab := if pinI P c = 0 then P.modify c.toNat (fun r => r.set 0 now) else P
def unpI (P : Tab) (c : Int) : Int := if c < 0 ∨ (P.length : Int) ≤ c then 2 else if cell P c.toNat = -1 then 6 else 0
def unpL (P : Tab) (c : Int) : Tab := if unpI P c = 0 then P.modify c.toNat (fun r => r.set 0 (-1)) else P
def retI (A : Tab) (f : Int) : Int := if f < 0 then 1 else if (findK A f).length = 0 then 0 else 5
def retL (A : Tab) (f now : Int) : Tab := if retI A f = 0 then putK A [f, now] else A
/-- How many rows come ahead of f, from i on. -/
def rankI (A : Tab) (f i : Int) : Int := i + (((A.drop i.toNat).takeWhile fun r => decide (hdK r < f)).length : Int)
/-- Those gone through by Copy. -/
def visT (M : Tab) : Tab := (M.filter fun r => decide (lastK r = 0)).map List.dropLast
/-- How pins and rows can be. -/
def pinsB (P : Tab) (now : Int) : Bool := P.all fun r => decide (-1 ≤ r.getD 0 0) && decide (r.getD 0 0 ≤ now)
def nearB (P : Tab) (now : Int) : Bool := P.all fun r => decide (r.getD 0 0 = -1) || (decide (now - 1 ≤ r.getD 0 0) && decide (r.getD 0 0 ≤ now))
def pastB (A : Tab) (now : Int) : Bool := A.all fun r => decide (0 ≤ r.getD 1 0) && decide (r.getD 1 0 ≤ now)
def offB (P : Tab) (c : Int) : Bool := (P.take c.toNat).all fun r => decide (r = [-1])
/-- Rows of one cell. -/
def flatB (P : Tab) : Bool := P.all fun r => decide ([r.getD 0 0] = r)
def riseB (A : Tab) : Bool := decide (A.Pairwise fun a b => hdK a < hdK b)
/-- EpochSafe: how the frames that wait can be (S: what since was when each was retired; N: since). -/
abbrev rowS (S : Tab) (f : Int) : List Int := S.getD f.toNat []
def safeR (P S N : Tab) (f at' i : Int) : Bool := decide ((rowS S f).length = 4) && (List.range 4).all fun c =>
  decide ((rowS S f).getD c 0 ≤ i) && (decide ((rowS S f).getD c 0 ≤ 0) || (!decide (cell N c = (rowS S f).getD c 0) || decide (cell P c ≤ at')))
def sinB (P N : Tab) (i : Int) : Bool := (List.range 4).all fun c => (decide (cell N c = 0) == decide (cell P c = -1)) && (decide (0 ≤ cell N c) && decide (cell N c ≤ i))
def sfB (P A S N : Tab) (now i : Int) : Bool := A.all (fun r => (decide (0 ≤ r.getD 0 0) && decide (r.getD 0 0 ≤ 63)) && ((decide (0 ≤ r.getD 1 0) && decide (r.getD 1 0 ≤ now)) && safeR P S N (r.getD 0 0) (r.getD 1 0) i)) && sinB P N i
/-- One that may be told. -/
def goneR (S N : Tab) (f : Int) : Bool := (decide (0 ≤ f) && decide (f ≤ 63)) && (decide ((rowS S f).length = 4) && (List.range 4).all fun c => decide ((rowS S f).getD c 0 ≤ 0) || !decide (cell N c = (rowS S f).getD c 0))
def goneL (A S N : Tab) : Tab → Bool
  | [] => true
  | r :: L => (goneR S N (r.getD 0 0) && (A.all (fun a => !decide (a.getD 0 0 = r.getD 0 0)) && L.all (fun a => !decide (a.getD 0 0 = r.getD 0 0)))) && goneL A S N L
def fI : Nat → List Arg → Int
  | 140, [.inr P, .inl c] => pinI P c
  | 141, [.inr P, .inl c] => unpI P c
  | 142, [.inr A, .inl f] => retI A f
  | 143, [.inr A, .inl f, .inl i] => rankI A f i
  | 100, [.inr A, .inl i, .inl x] => (shI i.toNat x A : Int)
  | _, _ => 0
def fL : Nat → List Arg → Tab
  | 100, [.inr A, .inl i, .inl x] => shA i.toNat x A
  | 110, [.inr M] => keyT allP M
  | 111, [.inr M, .inl now] => keyT (oldP now) M
  | 112, [.inr M] => seenT allP M
  | 113, [.inr M, .inl now] => seenT (oldP now) M
  | 114, [.inr M] => clrAll M
  | 120, [.inr M, .inr L, .inl i] => delAll M (L.drop i.toNat)
  | 121, [.inr M, .inl now] => keepT (oldP now) M
  | 115, [.inr M] => visT M
  | 140, [.inr P, .inl c, .inl now] => pinL P c now
  | 141, [.inr P, .inl c] => unpL P c
  | 142, [.inr A, .inl f, .inl now] => retL A f now
  | 131, [.inr P, .inl i, .inl n] => P ++ List.replicate (n - i).toNat [-1]
  | _, _ => []
def fB : Nat → List Arg → Bool
  | 130, [.inr P, .inl i, .inl now] => lateB (P.drop i.toNat) now
  | 150, [.inr P, .inl now] => pinsB P now
  | 151, [.inr P, .inl now] => nearB P now
  | 152, [.inr A, .inl now] => pastB A now
  | 153, [.inr P, .inl c] => offB P c
  | 154, [.inr A] => riseB A
  | 155, [.inr P] => flatB P
  | 160, [.inr P, .inr A, .inr S, .inr N, .inl now, .inl i] => sfB P A S N now i
  | 161, [.inr A, .inr S, .inr N, .inr L, .inl k] => goneL A S N (L.drop k.toNat)
  | 162, [.inr S, .inr N, .inl f] => goneR S N f
  | _, _ => false
def Φ : Sig := ⟨fI, fL, fB, fun _ _ _ _ => False, fun _ _ _ _ _ h _ => h⟩
theorem aI100 (A : Tab) (i x : Int) : Φ.appI 100 [.inr A, .inl i, .inl x] = (shI i.toNat x A : Int) := rfl
theorem aL100 (A : Tab) (i x : Int) : Φ.appL 100 [.inr A, .inl i, .inl x] = shA i.toNat x A := rfl
theorem aL110 (M : Tab) : Φ.appL 110 [.inr M] = keyT allP M := rfl
theorem aL111 (M : Tab) (n : Int) : Φ.appL 111 [.inr M, .inl n] = keyT (oldP n) M := rfl
theorem aL112 (M : Tab) : Φ.appL 112 [.inr M] = seenT allP M := rfl
theorem aL113 (M : Tab) (n : Int) : Φ.appL 113 [.inr M, .inl n] = seenT (oldP n) M := rfl
theorem aL114 (M : Tab) : Φ.appL 114 [.inr M] = clrAll M := rfl
theorem aL120 (M L : Tab) (i : Int) : Φ.appL 120 [.inr M, .inr L, .inl i] = delAll M (L.drop i.toNat) := rfl
theorem aL121 (M : Tab) (n : Int) : Φ.appL 121 [.inr M, .inl n] = keepT (oldP n) M := rfl
theorem aL131 (P : Tab) (i n : Int) : Φ.appL 131 [.inr P, .inl i, .inl n] = P ++ List.replicate (n - i).toNat [-1] := rfl
theorem aB130 (P : Tab) (i now : Int) : Φ.fB 130 [.inr P, .inl i, .inl now] = lateB (P.drop i.toNat) now := rfl
theorem aI140 (P : Tab) (c : Int) : Φ.appI 140 [.inr P, .inl c] = pinI P c := rfl
theorem aI141 (P : Tab) (c : Int) : Φ.appI 141 [.inr P, .inl c] = unpI P c := rfl
theorem aI142 (A : Tab) (f : Int) : Φ.appI 142 [.inr A, .inl f] = retI A f := rfl
theorem aI143 (A : Tab) (f i : Int) : Φ.appI 143 [.inr A, .inl f, .inl i] = rankI A f i := rfl
theorem aL115 (M : Tab) : Φ.appL 115 [.inr M] = visT M := rfl
theorem aL140 (P : Tab) (c now : Int) : Φ.appL 140 [.inr P, .inl c, .inl now] = pinL P c now := rfl
theorem aL141 (P : Tab) (c : Int) : Φ.appL 141 [.inr P, .inl c] = unpL P c := rfl
theorem aL142 (A : Tab) (f now : Int) : Φ.appL 142 [.inr A, .inl f, .inl now] = retL A f now := rfl
theorem aB150 (P : Tab) (now : Int) : Φ.fB 150 [.inr P, .inl now] = pinsB P now := rfl
theorem aB151 (P : Tab) (now : Int) : Φ.fB 151 [.inr P, .inl now] = nearB P now := rfl
theorem aB152 (A : Tab) (now : Int) : Φ.fB 152 [.inr A, .inl now] = pastB A now := rfl
theorem aB153 (P : Tab) (c : Int) : Φ.fB 153 [.inr P, .inl c] = offB P c := rfl
theorem aB154 (A : Tab) : Φ.fB 154 [.inr A] = riseB A := rfl
theorem aB155 (P : Tab) : Φ.fB 155 [.inr P] = flatB P := rfl
theorem aB160 (P A S N : Tab) (now i : Int) : Φ.fB 160 [.inr P, .inr A, .inr S, .inr N, .inl now, .inl i] = sfB P A S N now i := rfl
theorem aB161 (A S N L : Tab) (k : Int) : Φ.fB 161 [.inr A, .inr S, .inr N, .inr L, .inl k] = goneL A S N (L.drop k.toNat) := rfl
theorem aB162 (S N : Tab) (f : Int) : Φ.fB 162 [.inr S, .inr N, .inl f] = goneR S N f := rfl
theorem aB199 : Φ.fB 199 [] = false := rfl

/-! ### the way down -/
theorem shA_yes {A : Tab} {i x : Int} (h : 0 < i) (hx : x < cell A (i - 1).toNat) : shA i.toNat x A = shA (i - 1).toNat x (A.modify i.toNat fun r => r.set 0 (cell A (i - 1).toNat)) := by
  obtain ⟨k, rfl⟩ : ∃ k : Nat, i = k + 1 := ⟨(i - 1).toNat, by omega⟩
  have e1 : ((k : Int) + 1).toNat = k + 1 := by omega
  have e2 : ((k : Int) + 1 - 1).toNat = k := by omega
  rw [e2] at hx
  rw [e1, e2, shA, if_pos hx]
theorem shI_yes {A : Tab} {i x : Int} (h : 0 < i) (hx : x < cell A (i - 1).toNat) : shI i.toNat x A = shI (i - 1).toNat x (A.modify i.toNat fun r => r.set 0 (cell A (i - 1).toNat)) := by
  obtain ⟨k, rfl⟩ : ∃ k : Nat, i = k + 1 := ⟨(i - 1).toNat, by omega⟩
  have e1 : ((k : Int) + 1).toNat = k + 1 := by omega
  have e2 : ((k : Int) + 1 - 1).toNat = k := by omega
  rw [e2] at hx
  rw [e1, e2, shI, if_pos hx]
theorem sh_no {A : Tab} {i x : Int} (h : 0 ≤ i) (hx : i = 0 ∨ ¬ x < cell A (i - 1).toNat) : shA i.toNat x A = A ∧ (shI i.toNat x A : Int) = i := by
  by_cases h0 : i = 0
  · subst h0; exact ⟨rfl, rfl⟩
  · obtain ⟨k, rfl⟩ : ∃ k : Nat, i = k + 1 := ⟨(i - 1).toNat, by omega⟩
    have hx := hx.resolve_left h0
    have e1 : ((k : Int) + 1).toNat = k + 1 := by omega
    have e2 : ((k : Int) + 1 - 1).toNat = k := by omega
    rw [e2] at hx
    rw [e1, shA, shI, if_neg hx, if_neg hx]
    exact ⟨rfl, by omega⟩
theorem shA_len (x : Int) : ∀ (i : Nat) (A : Tab), (shA i x A).length = A.length
  | 0, A => rfl
  | i + 1, A => by
    rw [shA]; split
    · rw [shA_len x i]; simp
    · rfl
theorem shI_le (x : Int) : ∀ (i : Nat) (A : Tab), shI i x A ≤ i
  | 0, A => Nat.le_refl _
  | i + 1, A => by
    rw [shI]; split
    · exact Nat.le_succ_of_le (shI_le x i _)
    · exact Nat.le_refl _

/-! ### what comes one by one -/
theorem drop_step {A : Tab} {i : Int} (h : 0 ≤ i) (hi : i < A.length) : A.drop i.toNat = A.getD i.toNat [] :: A.drop (i + 1).toNat := by
  have hlt : i.toNat < A.length := by omega
  rw [List.drop_eq_getElem_cons hlt, show (i + 1).toNat = i.toNat + 1 by omega]
  simp [List.getD, List.getElem?_eq_getElem hlt]
theorem delAll_step {M L : Tab} {i : Int} (h : 0 ≤ i) (hi : i < L.length) : delAll M (L.drop i.toNat) = delAll (delK M ((L.getD i.toNat []).getD 0 0)) (L.drop (i + 1).toNat) := by
  rw [drop_step h hi]; rfl
theorem delAll_end {M L : Tab} {i : Int} (hi : ¬ i < L.length) : delAll M (L.drop i.toNat) = M := by
  rw [List.drop_of_length_le (by omega)]; rfl
theorem late_step {P : Tab} {i now : Int} (h : 0 ≤ i) (hi : i < P.length) : lateB (P.drop i.toNat) now = ((!decide ((P.getD i.toNat []).getD 0 0 = -1) && !decide ((P.getD i.toNat []).getD 0 0 = now)) || lateB (P.drop (i + 1).toNat) now) := by
  rw [drop_step h hi]; rfl
theorem late_end {P : Tab} {i now : Int} (hi : ¬ i < P.length) : lateB (P.drop i.toNat) now = false := by
  rw [List.drop_of_length_le (by omega)]; rfl
theorem pad_step {i n : Int} (h : i < n) : List.replicate (n - i).toNat ([-1] : List Int) = [-1] :: List.replicate (n - (i + 1)).toNat [-1] := by
  rw [show (n - i).toNat = (n - (i + 1)).toNat + 1 by omega, List.replicate_succ]
theorem getD_mem {A : Tab} {i : Int} (h0 : 0 ≤ i) (h1 : i < A.length) : A.getD i.toNat [] ∈ A := by
  have hk : i.toNat < A.length := by omega
  simp [List.getD, hk]
theorem row1 {k : CK} {row : List Int} (h : okRow [k] row) : [row.getD 0 0] = row := by
  match row, h with
  | [a], _ => rfl
theorem row1_eq {k : CK} {r s : List Int} (hr : okRow [k] r) (hs : okRow [k] s) : r = s ↔ r.getD 0 0 = s.getD 0 0 := by
  constructor
  · intro e; rw [e]
  · intro e; rw [← row1 hr, ← row1 hs, e]
theorem eq_step {A B : Tab} {i : Int} {k : CK} (hA : ∀ r ∈ A, okRow [k] r) (hB : ∀ r ∈ B, okRow [k] r) (h : 0 ≤ i) (hi : i < A.length) (hl : (A.length : Int) = B.length) :
    A.drop i.toNat = B.drop i.toNat ↔ (A.getD i.toNat []).getD 0 0 = (B.getD i.toNat []).getD 0 0 ∧ A.drop (i + 1).toNat = B.drop (i + 1).toNat := by
  rw [drop_step (A := A) h hi, drop_step (A := B) h (by omega), List.cons.injEq, row1_eq (hA _ (getD_mem h hi)) (hB _ (getD_mem h (by omega)))]
theorem eq_end {A B : Tab} {i : Int} (hi : ¬ i < A.length) (hl : (A.length : Int) = B.length) : A.drop i.toNat = B.drop i.toNat := by
  rw [List.drop_of_length_le (by omega), List.drop_of_length_le (by omega)]
theorem delAll_filter : ∀ (L M : Tab), delAll M L = M.filter fun r => L.all fun l => !decide (hdK r = l.getD 0 0)
  | [], M => by simp only [delAll, List.foldl_nil, List.all_nil]; exact (List.filter_eq_self.2 fun _ _ => rfl).symm
  | l :: L, M => by
    show delAll (delK M (l.getD 0 0)) L = _
    rw [delAll_filter L]
    unfold delK
    rw [List.filter_filter]
    congr 1
    funext r
    rw [List.all_cons, Bool.and_comm]
theorem key_same {A : Tab} (h : A.Pairwise fun a b => hdK a < hdK b) : ∀ {r s : List Int}, r ∈ A → s ∈ A → hdK r = hdK s → r = s := by
  induction h with
  | nil => intro r s hr; cases hr
  | cons h1 h2 ih =>
    intro r s hr hs e
    rcases List.mem_cons.1 hr with e1 | hr <;> rcases List.mem_cons.1 hs with e2 | hs
    · rw [e1, e2]
    · have := h1 s hs; rw [← e1] at this; omega
    · have := h1 r hr; rw [← e2] at this; omega
    · exact ih hr hs e
theorem keep_del {p : List Int → Bool} {A : Tab} (h : A.Pairwise fun a b => hdK a < hdK b) : keepT p A = delAll A ((keyT p A).drop (0 : Int).toNat) := by
  rw [show (0 : Int).toNat = 0 from rfl, List.drop_zero, delAll_filter]
  unfold keepT
  refine List.filter_congr fun r hr => ?_
  rw [Bool.eq_iff_iff, Bool.not_eq_true', List.all_eq_true]
  constructor
  · intro hp l hl
    obtain ⟨s, hs, rfl⟩ := List.mem_map.1 hl
    have hs := List.mem_filter.1 hs
    simp only [List.getD_cons_zero, Bool.not_eq_true', decide_eq_false_iff_not]
    intro e
    rw [key_same h hr hs.1 e, hs.2] at hp
    cases hp
  · intro hall
    cases hp : p r with
    | false => rfl
    | true =>
      have := hall [hdK r] (List.mem_map.2 ⟨r, List.mem_filter.2 ⟨hr, hp⟩, rfl⟩)
      simp at this
theorem keepT_len (p : List Int → Bool) (A : Tab) : (keepT p A).length ≤ A.length := List.length_filter_le ..
end Go.SF.C10
