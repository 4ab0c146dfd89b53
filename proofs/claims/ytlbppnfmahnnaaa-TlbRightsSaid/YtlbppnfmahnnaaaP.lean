/- What the functions of chapter 14 compute, in plain Lean; and the numbers by which the machine of unknowns names them. -/
import Derived.Test.YtlbppnfmahnnaaaSFSimp
namespace Go.SF.C14
open Go.SF
set_option linter.unusedVariables false

/-- A row's cell. -/
abbrev at' (row : List Int) (j : Nat) : Int := row.getD j 0
/-- Of a tag and a page; of a tag; of a frame. -/
def pOf (tag page : Int) (row : List Int) : Bool := decide (at' row 0 = tag) && decide (at' row 1 = page)
def pTag (tag : Int) (row : List Int) : Bool := decide (at' row 0 = tag)
def pFrame (f : Int) (row : List Int) : Bool := decide (at' row 2 = f)

/-- The sweep, from the line before k down: the lines; how many were taken away. -/
def sweepA (p : List Int → Bool) : Nat → Tab → Tab
  | 0, A => A
  | k + 1, A => sweepA p k (if p (A.getD k []) then A.take k ++ A.drop (k + 1) else A)
def sweepN (p : List Int → Bool) : Nat → Tab → Int → Int
  | 0, A, n => n
  | k + 1, A, n => sweepN p k (if p (A.getD k []) then A.take k ++ A.drop (k + 1) else A) (if p (A.getD k []) then IntKind.i64.wrap (n + 1) else n)

/-- Lines but those of which p is so. -/
def keep (p : List Int → Bool) (A : Tab) : Tab := A.filter fun r => !p r
/-- A line that can be. -/
def rightB (t p f r : Int) : Bool := decide (1 ≤ t) && decide (t ≤ 16) && decide (0 ≤ p) && decide (p < 65536) && decide (0 ≤ f) && decide (f < 4096) && decide (1 ≤ r) && decide (r ≤ 7)
/-- A line is filled. -/
def fillL (A : Tab) (size t p f r : Int) : Tab :=
  if rightB t p f r then
    (if A.any (pOf t p) = false ∧ (A.length : Int) = size then A.drop 1 else keep (pOf t p) A) ++ [[t, p, f, r]]
  else A
/-- What Look tells, from line i on: the line, if there is one. -/
def lookAt (A : Tab) (i t p : Int) : Option (List Int) := (A.drop i.toNat).find? (pOf t p)
def lookF (want : Int) : Option (List Int) → Int
  | none => 0
  | some r => if want < 0 ∨ 7 < want ∨ ¬ Go.bits .andNot .i64 want (at' r 3) = 0 then 0 else at' r 2
def lookE (want : Int) : Option (List Int) → Int
  | none => 4
  | some r => if want < 0 ∨ 7 < want ∨ ¬ Go.bits .andNot .i64 want (at' r 3) = 0 then 7 else 0

/-- What without keeps, from line i on, behind what was kept. -/
def wkT (p : List Int → Bool) (A B : Tab) (i : Int) : Tab := B ++ keep p (A.drop i.toNat)
/-- No two lines of one tag and page. -/
def nodupL (A : Tab) : Bool := decide (A.Pairwise fun r s => ¬ (at' r 0 = at' s 0 ∧ at' r 1 = at' s 1))
/-- Lines of one tag, one behind the other. -/
def lastA (g i : Int) : Tab := (List.range i.toNat).map fun (k : Nat) => [g, (k : Int), 100 + (k : Int), 1]
/-- The line of tag 9 is there, and no other one of that tag. -/
def nineB (A : Tab) (p : Int) : Bool := decide (A.countP (pTag 9) = 1) && A.contains [9, p, 4000, 5]
def fI : Nat → List Arg → Int
  | 100, [.inr A, .inl i, .inl n, .inl tag, .inl page] => sweepN (pOf tag page) (i + 1).toNat A n
  | 101, [.inr A, .inl i, .inl n, .inl tag] => sweepN (pTag tag) (i + 1).toNat A n
  | 102, [.inr A, .inl i, .inl n, .inl f] => sweepN (pFrame f) (i + 1).toNat A n
  | 111, [.inr A, .inl t] => ((A.countP (pTag t) : Nat) : Int)
  | 112, [.inr A, .inl f] => ((A.countP (pFrame f) : Nat) : Int)
  | 120, [.inl t, .inl p, .inl f, .inl r] => if rightB t p f r then 0 else 1
  | 130, [.inr A, .inl i, .inl t, .inl p, .inl w] => lookF w (lookAt A i t p)
  | 131, [.inr A, .inl i, .inl t, .inl p, .inl w] => lookE w (lookAt A i t p)
  | _, _ => 0
def fL : Nat → List Arg → Tab
  | 100, [.inr A, .inl i, .inl tag, .inl page] => sweepA (pOf tag page) (i + 1).toNat A
  | 101, [.inr A, .inl i, .inl tag] => sweepA (pTag tag) (i + 1).toNat A
  | 102, [.inr A, .inl i, .inl f] => sweepA (pFrame f) (i + 1).toNat A
  | 140, [.inr A, .inr B, .inl i, .inl t, .inl p] => wkT (pOf t p) A B i
  | 141, [.inr A, .inr B, .inl i, .inl t] => wkT (pTag t) A B i
  | 142, [.inr A, .inr B, .inl i, .inl f] => wkT (pFrame f) A B i
  | 110, [.inr A, .inl t, .inl p] => keep (pOf t p) A
  | 111, [.inr A, .inl t] => keep (pTag t) A
  | 112, [.inr A, .inl f] => keep (pFrame f) A
  | 120, [.inr A, .inl s, .inl t, .inl p, .inl f, .inl r] => fillL A s t p f r
  | 161, [.inl g, .inl i] => lastA g i
  | _, _ => []
def fB : Nat → List Arg → Bool
  | 100, [.inr A, .inl t, .inl p] => A.any (pOf t p)
  | 130, [.inr A, .inl i, .inl t, .inl p] => (lookAt A i t p).isSome
  | 160, [.inr A] => nodupL A
  | 162, [.inr A, .inl p] => nineB A p
  | _, _ => false
def Φ : Sig := ⟨fI, fL, fB, fun _ _ _ _ => False, fun _ _ _ _ _ h _ => h⟩
theorem aL140 (A B : Tab) (i t p : Int) : Φ.appL 140 [.inr A, .inr B, .inl i, .inl t, .inl p] = wkT (pOf t p) A B i := rfl
theorem aL141 (A B : Tab) (i t : Int) : Φ.appL 141 [.inr A, .inr B, .inl i, .inl t] = wkT (pTag t) A B i := rfl
theorem aL142 (A B : Tab) (i t : Int) : Φ.appL 142 [.inr A, .inr B, .inl i, .inl t] = wkT (pFrame t) A B i := rfl
theorem aI111 (A : Tab) (t : Int) : Φ.appI 111 [.inr A, .inl t] = ((A.countP (pTag t) : Nat) : Int) := rfl
theorem aI112 (A : Tab) (t : Int) : Φ.appI 112 [.inr A, .inl t] = ((A.countP (pFrame t) : Nat) : Int) := rfl
theorem aI120 (t p f r : Int) : Φ.appI 120 [.inl t, .inl p, .inl f, .inl r] = if rightB t p f r then 0 else 1 := rfl
theorem aI130 (A : Tab) (i t p w : Int) : Φ.appI 130 [.inr A, .inl i, .inl t, .inl p, .inl w] = lookF w (lookAt A i t p) := rfl
theorem aI131 (A : Tab) (i t p w : Int) : Φ.appI 131 [.inr A, .inl i, .inl t, .inl p, .inl w] = lookE w (lookAt A i t p) := rfl
theorem aL110 (A : Tab) (t p : Int) : Φ.appL 110 [.inr A, .inl t, .inl p] = keep (pOf t p) A := rfl
theorem aL111 (A : Tab) (t : Int) : Φ.appL 111 [.inr A, .inl t] = keep (pTag t) A := rfl
theorem aL112 (A : Tab) (t : Int) : Φ.appL 112 [.inr A, .inl t] = keep (pFrame t) A := rfl
theorem aL120 (A : Tab) (s t p f r : Int) : Φ.appL 120 [.inr A, .inl s, .inl t, .inl p, .inl f, .inl r] = fillL A s t p f r := rfl
theorem aB100 (A : Tab) (t p : Int) : Φ.fB 100 [.inr A, .inl t, .inl p] = A.any (pOf t p) := rfl
theorem aB130 (A : Tab) (i t p : Int) : Φ.fB 130 [.inr A, .inl i, .inl t, .inl p] = (lookAt A i t p).isSome := rfl
theorem aI100 (A : Tab) (i n t p : Int) : Φ.appI 100 [.inr A, .inl i, .inl n, .inl t, .inl p] = sweepN (pOf t p) (i + 1).toNat A n := rfl
theorem aL100 (A : Tab) (i t p : Int) : Φ.appL 100 [.inr A, .inl i, .inl t, .inl p] = sweepA (pOf t p) (i + 1).toNat A := rfl
theorem aI101 (A : Tab) (i n t : Int) : Φ.appI 101 [.inr A, .inl i, .inl n, .inl t] = sweepN (pTag t) (i + 1).toNat A n := rfl
theorem aL101 (A : Tab) (i t : Int) : Φ.appL 101 [.inr A, .inl i, .inl t] = sweepA (pTag t) (i + 1).toNat A := rfl
theorem aI102 (A : Tab) (i n t : Int) : Φ.appI 102 [.inr A, .inl i, .inl n, .inl t] = sweepN (pFrame t) (i + 1).toNat A n := rfl
theorem aL102 (A : Tab) (i t : Int) : Φ.appL 102 [.inr A, .inl i, .inl t] = sweepA (pFrame t) (i + 1).toNat A := rfl

theorem aB160 (A : Tab) : Φ.fB 160 [.inr A] = nodupL A := rfl
theorem aB162 (A : Tab) (p : Int) : Φ.fB 162 [.inr A, .inl p] = nineB A p := rfl
theorem aB199 : Φ.fB 199 [] = false := rfl
theorem aL161 (g i : Int) : Φ.appL 161 [.inl g, .inl i] = lastA g i := rfl
theorem sweepA_yes {p : List Int → Bool} {A : Tab} {i : Int} (h : 0 ≤ i) (hp : p (A.getD i.toNat []) = true) : sweepA p (i + 1).toNat A = sweepA p (i - 1 + 1).toNat (A.take i.toNat ++ A.drop (i + 1).toNat) := by
  rw [show (i + 1).toNat = i.toNat + 1 by omega, show (i - 1 + 1).toNat = i.toNat by omega, sweepA, if_pos hp]
theorem sweepA_no {p : List Int → Bool} {A : Tab} {i : Int} (h : 0 ≤ i) (hp : p (A.getD i.toNat []) = false) : sweepA p (i + 1).toNat A = sweepA p (i - 1 + 1).toNat A := by
  rw [show (i + 1).toNat = i.toNat + 1 by omega, show (i - 1 + 1).toNat = i.toNat by omega, sweepA, if_neg (by rw [hp]; simp)]
theorem sweepA_end {p : List Int → Bool} {A : Tab} {i : Int} (h : i < 0) : sweepA p (i + 1).toNat A = A := by
  rw [show (i + 1).toNat = 0 by omega, sweepA]
theorem sweepN_yes {p : List Int → Bool} {A : Tab} {i n : Int} (h : 0 ≤ i) (hp : p (A.getD i.toNat []) = true) : sweepN p (i + 1).toNat A n = sweepN p (i - 1 + 1).toNat (A.take i.toNat ++ A.drop (i + 1).toNat) (IntKind.i64.wrap (n + 1)) := by
  rw [show (i + 1).toNat = i.toNat + 1 by omega, show (i - 1 + 1).toNat = i.toNat by omega, sweepN, if_pos hp, if_pos hp]
theorem sweepN_no {p : List Int → Bool} {A : Tab} {i n : Int} (h : 0 ≤ i) (hp : p (A.getD i.toNat []) = false) : sweepN p (i + 1).toNat A n = sweepN p (i - 1 + 1).toNat A n := by
  rw [show (i + 1).toNat = i.toNat + 1 by omega, show (i - 1 + 1).toNat = i.toNat by omega, sweepN, if_neg (by rw [hp]; simp), if_neg (by rw [hp]; simp)]
theorem sweepN_end {p : List Int → Bool} {A : Tab} {i n : Int} (h : i < 0) : sweepN p (i + 1).toNat A n = n := by
  rw [show (i + 1).toNat = 0 by omega, sweepN]

/-! ### what the sweep comes to -/
theorem keep_snoc (p : List Int → Bool) (X : Tab) (x : List Int) : keep p (X ++ [x]) = keep p X ++ if p x then [] else [x] := by
  unfold keep; rw [List.filter_append]; cases h : p x <;> simp [h]
theorem count_snoc (p : List Int → Bool) (X : Tab) (x : List Int) : (X ++ [x]).countP p = X.countP p + if p x then 1 else 0 := by
  rw [List.countP_append]; cases h : p x <;> simp [h]
theorem sweepA_keep (p : List Int → Bool) : ∀ (k : Nat) (A : Tab), k ≤ A.length → sweepA p k A = keep p (A.take k) ++ A.drop k
  | 0, A, _ => by simp [sweepA, keep]
  | k + 1, A, h => by
    have hk : k < A.length := by omega
    have e1 : A.take (k + 1) = A.take k ++ [A[k]] := by rw [List.take_succ_eq_append_getElem hk]
    have e2 : A.drop k = A[k] :: A.drop (k + 1) := List.drop_eq_getElem_cons hk
    have e3 : A.getD k [] = A[k] := by simp [List.getD, hk]
    rw [sweepA, e3]
    split
    · rename_i hp
      have hl : (A.take k ++ A.drop (k + 1)).take k = A.take k := by rw [List.take_append_of_le_length (by simp; omega), List.take_take, Nat.min_self]
      have hd : (A.take k ++ A.drop (k + 1)).drop k = A.drop (k + 1) := by rw [List.drop_append_of_le_length (by simp; omega), List.drop_take, Nat.sub_self, List.take_zero, List.nil_append]
      rw [sweepA_keep p k _ (by simp; omega), hl, hd, e1, keep_snoc, if_pos hp, List.append_nil]
    · rename_i hp
      rw [sweepA_keep p k A (by omega), e1, e2, keep_snoc, if_neg hp, List.append_assoc]; rfl
theorem sweepN_count (p : List Int → Bool) : ∀ (k : Nat) (A : Tab) (n : Int), k ≤ A.length → 0 ≤ n → n + k < 1000000 → sweepN p k A n = n + ((A.take k).countP p : Nat)
  | 0, A, n, _, _, _ => by simp [sweepN]
  | k + 1, A, n, h, h0, h1 => by
    have hk : k < A.length := by omega
    have e1 : A.take (k + 1) = A.take k ++ [A[k]] := by rw [List.take_succ_eq_append_getElem hk]
    have e3 : A.getD k [] = A[k] := by simp [List.getD, hk]
    rw [sweepN, e3]
    split
    · rename_i hp
      have hl : (A.take k ++ A.drop (k + 1)).take k = A.take k := by rw [List.take_append_of_le_length (by simp; omega), List.take_take, Nat.min_self]
      rw [wrap_in (by simp only [kmin]; omega) (by simp only [kmax]; omega), sweepN_count p k _ (n + 1) (by simp; omega) (by omega) (by omega), hl, e1, count_snoc, if_pos hp]; omega
    · rename_i hp
      rw [sweepN_count p k A n (by omega) h0 (by omega), e1, count_snoc, if_neg hp]; simp
theorem sweepA_all (p : List Int → Bool) (A : Tab) : sweepA p ((A.length : Int) - 1 + 1).toNat A = keep p A := by
  rw [show ((A.length : Int) - 1 + 1).toNat = A.length by omega, sweepA_keep p _ A (Nat.le_refl _)]; simp
theorem sweepN_all (p : List Int → Bool) (A : Tab) (h : (A.length : Int) < 100000) : sweepN p ((A.length : Int) - 1 + 1).toNat A 0 = (A.countP p : Nat) := by
  rw [show ((A.length : Int) - 1 + 1).toNat = A.length by omega, sweepN_count p _ A 0 (Nat.le_refl _) (by omega) (by omega)]; simp
theorem keep_len (p : List Int → Bool) (A : Tab) : (keep p A).length ≤ A.length := List.length_filter_le _ _
theorem any_count (p : List Int → Bool) (A : Tab) : A.any p = decide (0 < A.countP p) := by
  rw [Bool.eq_iff_iff, decide_eq_true_eq, List.countP_pos_iff, List.any_eq_true]
theorem keep_none {p : List Int → Bool} {A : Tab} (h : A.any p = false) : keep p A = A := by
  unfold keep
  rw [List.filter_eq_self]
  intro x hx
  have := List.any_eq_false.1 h x hx
  simpa using this
theorem fillL_wrong {A : Tab} {s t p f r : Int} (h : rightB t p f r = false) : fillL A s t p f r = A := by simp [fillL, h]
theorem fillL_room {A : Tab} {s t p f r : Int} (h : rightB t p f r = true) (h1 : A.any (pOf t p) = false) (h2 : (A.length : Int) = s) : fillL A s t p f r = A.drop 1 ++ [[t, p, f, r]] := by
  unfold fillL; rw [if_pos h, if_pos ⟨h1, h2⟩]
theorem fillL_more {A : Tab} {s t p f r : Int} (h : rightB t p f r = true) (h1 : A.any (pOf t p) = true ∨ ¬ (A.length : Int) = s) : fillL A s t p f r = keep (pOf t p) A ++ [[t, p, f, r]] := by
  unfold fillL; rw [if_pos h, if_neg]
  rintro ⟨h2, h3⟩
  rcases h1 with h1 | h1
  · rw [h1] at h2; cases h2
  · exact h1 h3
theorem lookAt_yes {A : Tab} {i t p : Int} (h0 : 0 ≤ i) (h1 : i < A.length) (h : pOf t p (A.getD i.toNat []) = true) : lookAt A i t p = some (A.getD i.toNat []) := by
  have hk : i.toNat < A.length := by omega
  unfold lookAt
  rw [List.drop_eq_getElem_cons hk, List.find?_cons_of_pos]
  · simp [List.getD, hk]
  · simpa [List.getD, hk] using h
theorem lookAt_no {A : Tab} {i t p : Int} (h0 : 0 ≤ i) (h1 : i < A.length) (h : pOf t p (A.getD i.toNat []) = false) : lookAt A i t p = lookAt A (i + 1) t p := by
  have hk : i.toNat < A.length := by omega
  unfold lookAt
  rw [List.drop_eq_getElem_cons hk, List.find?_cons_of_neg, show (i + 1).toNat = i.toNat + 1 by omega]
  simpa [List.getD, hk] using h
theorem lookAt_end {A : Tab} {i t p : Int} (h1 : ¬ i < A.length) : lookAt A i t p = none := by
  unfold lookAt
  rw [List.drop_of_length_le (by omega)]; rfl
theorem wkT_yes {p : List Int → Bool} {A B : Tab} {i : Int} (h0 : 0 ≤ i) (h1 : i < A.length) (hp : p (A.getD i.toNat []) = true) : wkT p A B i = wkT p A B (i + 1) := by
  have hk : i.toNat < A.length := by omega
  have e3 : A.getD i.toNat [] = A[i.toNat] := by simp [List.getD, hk]
  rw [e3] at hp
  unfold wkT keep
  rw [show (i + 1).toNat = i.toNat + 1 by omega, List.drop_eq_getElem_cons hk, List.filter_cons_of_neg (by simp [hp])]
theorem wkT_no {p : List Int → Bool} {A B : Tab} {i : Int} (h0 : 0 ≤ i) (h1 : i < A.length) (hp : p (A.getD i.toNat []) = false) : wkT p A B i = wkT p A (B ++ [A.getD i.toNat []]) (i + 1) := by
  have hk : i.toNat < A.length := by omega
  have e3 : A.getD i.toNat [] = A[i.toNat] := by simp [List.getD, hk]
  rw [e3] at hp ⊢
  unfold wkT keep
  rw [show (i + 1).toNat = i.toNat + 1 by omega, List.drop_eq_getElem_cons hk, List.filter_cons_of_pos (by simp [hp]), List.append_assoc]; rfl
theorem wkT_end {p : List Int → Bool} {A B : Tab} {i : Int} (h1 : ¬ i < A.length) : wkT p A B i = B := by
  unfold wkT keep; rw [List.drop_of_length_le (by omega)]; simp
theorem wkT_len {p : List Int → Bool} {A B : Tab} {i : Int} (h0 : 0 ≤ i) (h1 : i ≤ A.length) (h : (B.length : Int) ≤ i) : (wkT p A B i).length ≤ A.length := by
  unfold wkT keep; rw [List.length_append]
  have := List.length_filter_le (fun r => !p r) (A.drop i.toNat)
  rw [List.length_drop] at this; omega
theorem wkT_all (p : List Int → Bool) (A : Tab) : wkT p A [] 0 = keep p A := by simp [wkT]
theorem bv_sub (a b : BitVec 64) : a &&& ~~~b = 0#64 ↔ b &&& a = a := by
  constructor
  · intro h
    apply BitVec.eq_of_getLsbD_eq
    intro i hi
    have := congrArg (fun x => x.getLsbD i) h
    simp [hi] at this
    simp
    intro ha
    exact this ha
  · intro h
    apply BitVec.eq_of_getLsbD_eq
    intro i hi
    have := congrArg (fun x => x.getLsbD i) h
    simp at this
    simp [hi]
    exact this
theorem and_mask {w x : Int} (h0 : 0 ≤ w) (h1 : w ≤ 7) : Go.bits .and .i64 x w = w ↔ Go.bits .andNot .i64 w x = 0 := by
  have ha : (BitVec.ofInt 64 w).toNat = w.toNat := by
    rw [BitVec.toNat_ofInt]; omega
  show IntKind.i64.wrap ((BitVec.ofInt 64 x &&& BitVec.ofInt 64 w).toNat : Nat) = w ↔ IntKind.i64.wrap ((BitVec.ofInt 64 w &&& ~~~BitVec.ofInt 64 x).toNat : Nat) = 0
  have hl : (BitVec.ofInt 64 x &&& BitVec.ofInt 64 w).toNat ≤ 7 := by
    rw [BitVec.toNat_and, ha]
    have := @Nat.and_le_right (BitVec.ofInt 64 x).toNat w.toNat
    omega
  have hm : (BitVec.ofInt 64 w &&& ~~~BitVec.ofInt 64 x).toNat ≤ 7 := by
    rw [BitVec.toNat_and, ha]
    have := @Nat.and_le_left w.toNat (~~~BitVec.ofInt 64 x).toNat
    omega
  rw [wrap_in (by simp only [kmin]; omega) (by simp only [kmax]; omega), wrap_in (by simp only [kmin]; omega) (by simp only [kmax]; omega)]
  have e1 : (((BitVec.ofInt 64 x &&& BitVec.ofInt 64 w).toNat : Nat) : Int) = w ↔ BitVec.ofInt 64 x &&& BitVec.ofInt 64 w = BitVec.ofInt 64 w := by
    rw [← BitVec.toNat_inj, ha]; omega
  have e2 : (((BitVec.ofInt 64 w &&& ~~~BitVec.ofInt 64 x).toNat : Nat) : Int) = 0 ↔ BitVec.ofInt 64 w &&& ~~~BitVec.ofInt 64 x = 0#64 := by
    rw [← BitVec.toNat_inj]; simp
  rw [e1, e2, bv_sub]
theorem getD_mem {A : Tab} {i : Int} (h0 : 0 ≤ i) (h1 : i < A.length) : A.getD i.toNat [] ∈ A := by
  have hk : i.toNat < A.length := by omega
  simp [List.getD, hk]
theorem row4 {k0 k1 k2 k3 : CK} {row : List Int} (h : okRow [k0, k1, k2, k3] row) : [row.getD 0 0, row.getD 1 0, row.getD 2 0, row.getD 3 0] = row := by
  match row, h with
  | [a, b, c, d], _ => rfl
theorem tri {W W' : Tab} {n : Int} (e : W = W') (h : (W'.length : Int) ≤ n) : (W.length : Int) ≤ n ∧ (W.length : Int) = W'.length ∧ W = W' := by subst e; exact ⟨h, rfl, rfl⟩
theorem drop_step {A : Tab} {i : Int} (h0 : 0 ≤ i) (h1 : i < A.length) : A.drop i.toNat = A.getD i.toNat [] :: A.drop (i + 1).toNat := by
  have hk : i.toNat < A.length := by omega
  have e3 : A.getD i.toNat [] = A[i.toNat] := by simp [List.getD, hk]
  rw [e3, show (i + 1).toNat = i.toNat + 1 by omega]; exact List.drop_eq_getElem_cons hk
theorem row4_eq {k0 k1 k2 k3 : CK} {r s : List Int} (hr : okRow [k0, k1, k2, k3] r) (hs : okRow [k0, k1, k2, k3] s) (h : r.getD 0 0 = s.getD 0 0 ∧ r.getD 1 0 = s.getD 1 0 ∧ r.getD 2 0 = s.getD 2 0 ∧ r.getD 3 0 = s.getD 3 0) : r = s := by
  rw [← row4 hr, ← row4 hs, h.1, h.2.1, h.2.2.1, h.2.2.2]
theorem len_keep (p : List Int → Bool) (A : Tab) : (keep p A).length + A.countP p = A.length := by
  unfold keep
  rw [← List.countP_eq_length_filter]
  have := List.length_eq_countP_add_countP (p := p) (l := A)
  have e : List.countP (fun r => !p r) A = List.countP (fun a => decide ¬p a = true) A := List.countP_congr (by simp)
  omega
/-! ### what the laws ask -/
theorem fillL_eq {A : Tab} {s t p f r : Int} (h : rightB t p f r = true) : ∃ X, fillL A s t p f r = X ++ [[t, p, f, r]] ∧ (∀ x ∈ X, x ∈ A ∧ pOf t p x = false) ∧ X.Sublist A := by
  unfold fillL
  rw [if_pos h]
  split
  · rename_i h1
    refine ⟨_, rfl, fun x hx => ⟨List.mem_of_mem_drop hx, ?_⟩, List.drop_sublist _ _⟩
    have := List.any_eq_false.1 h1.1 x (List.mem_of_mem_drop hx)
    simpa using this
  · refine ⟨_, rfl, fun x hx => ?_, List.filter_sublist⟩
    have := List.mem_filter.1 hx
    exact ⟨this.1, by simpa using this.2⟩
theorem nodup_fill {A : Tab} {s t p f r : Int} (h : nodupL A = true) : nodupL (fillL A s t p f r) = true := by
  unfold nodupL at *
  rw [decide_eq_true_eq] at *
  cases hr : rightB t p f r with
  | false => rw [fillL_wrong hr]; exact h
  | true =>
    obtain ⟨X, e, h1, h2⟩ := fillL_eq (A := A) (s := s) hr
    rw [e, List.pairwise_append]
    refine ⟨h.sublist h2, List.pairwise_singleton _ _, fun x hx y hy => ?_⟩
    rw [List.mem_singleton] at hy; subst hy
    have := (h1 x hx).2
    simp only [pOf, at', Bool.and_eq_false_iff, decide_eq_false_iff_not] at this
    show ¬ (x.getD 0 0 = t ∧ x.getD 1 0 = p)
    intro e; rcases this with g | g
    · exact g e.1
    · exact g e.2
theorem nodup_keep {A : Tab} (q : List Int → Bool) (h : nodupL A = true) : nodupL (keep q A) = true := by
  unfold nodupL keep at *
  rw [decide_eq_true_eq] at *
  exact h.sublist List.filter_sublist
theorem fill_len {A : Tab} {s t p f r : Int} (h : (A.length : Int) ≤ s) : ((fillL A s t p f r).length : Int) ≤ s ∨ s ≤ 0 := by
  cases hr : rightB t p f r with
  | false => rw [fillL_wrong hr]; exact .inl h
  | true =>
    unfold fillL
    rw [if_pos hr]
    split
    · rename_i h1
      simp only [List.length_append, List.length_drop, List.length_singleton]; omega
    · rename_i h1
      have h2 := len_keep (pOf t p) A
      simp only [List.length_append, List.length_singleton]
      cases ha : A.any (pOf t p) with
      | true =>
        rw [any_count, decide_eq_true_eq] at ha
        omega
      | false =>
        have h3 : ¬ (A.length : Int) = s := fun e => h1 ⟨ha, e⟩
        omega
theorem look_fill {A : Tab} {s t p f r : Int} (h : rightB t p f r = true) : lookAt (fillL A s t p f r) 0 t p = some [t, p, f, r] := by
  obtain ⟨X, e, h1, _⟩ := fillL_eq (A := A) (s := s) h
  unfold lookAt
  rw [e, Int.toNat_zero, List.drop_zero, List.find?_append, List.find?_eq_none.2 (fun x hx => by rw [(h1 x hx).2]; simp), Option.none_or, List.find?_cons_of_pos]
  simp [pOf, at']
theorem look_keep {A : Tab} {t p : Int} : lookAt (keep (pOf t p) A) 0 t p = none := by
  unfold lookAt keep
  rw [Int.toNat_zero, List.drop_zero, List.find?_eq_none]
  intro x hx
  have := (List.mem_filter.1 hx).2
  simpa using this
theorem andNot_self (r : Int) : Go.bits .andNot .i64 r r = 0 := by
  show IntKind.i64.wrap ((BitVec.ofInt 64 r &&& ~~~BitVec.ofInt 64 r).toNat : Nat) = 0
  rw [BitVec.and_not_self]; rfl
theorem rightB_of {t p f r : Int} (h : (if rightB t p f r = true then (0 : Int) else 1) = 0) : rightB t p f r = true := by
  cases e : rightB t p f r with
  | true => rfl
  | false => rw [e] at h; simp at h
theorem nodup_two {A : Tab} (h : nodupL A = true) {i j : Int} (h0 : 0 ≤ i) (h1 : i < j) (h2 : j < A.length)
    (e0 : (A.getD i.toNat []).getD 0 0 = (A.getD j.toNat []).getD 0 0) (e1 : (A.getD i.toNat []).getD 1 0 = (A.getD j.toNat []).getD 1 0) : False := by
  unfold nodupL at h
  rw [decide_eq_true_eq] at h
  have hi : i.toNat < A.length := by omega
  have hj : j.toNat < A.length := by omega
  refine List.pairwise_iff_getElem.1 h i.toNat j.toNat hi hj (by omega) ?_
  simp only [List.getD, List.getElem?_eq_getElem hi, List.getElem?_eq_getElem hj, Option.getD_some] at e0 e1
  exact ⟨e0, e1⟩
theorem lastA_len {g i : Int} (h : 0 ≤ i) : ((lastA g i).length : Int) = i := by
  unfold lastA; simp; omega
theorem lastA_none {g i j : Int} (h : i ≤ j) (h0 : 0 ≤ i) : (lastA g i).any (pOf g j) = false := by
  rw [List.any_eq_false]
  intro x hx
  obtain ⟨k, hk, rfl⟩ := List.mem_map.1 hx
  have := List.mem_range.1 hk
  simp only [pOf, at', List.getD_cons_zero, List.getD_cons_succ]
  simp; omega
theorem lastA_succ {g i : Int} (h : 0 ≤ i) : lastA g (i + 1) = lastA g i ++ [[g, i, 100 + i, 1]] := by
  unfold lastA
  rw [show (i + 1).toNat = i.toNat + 1 by omega, List.range_succ, List.map_append]
  simp; omega
theorem last_fill {g i n : Int} (h0 : 0 ≤ i) (h1 : i < n) (h2 : n ≤ 64) (h3 : 1 ≤ g) (h4 : g ≤ 16) : fillL (lastA g i) n g i (100 + i) 1 = lastA g (i + 1) := by
  have hr : rightB g i (100 + i) 1 = true := by simp only [rightB, Bool.and_eq_true, decide_eq_true_eq]; omega
  have hl := lastA_len (g := g) h0
  rw [fillL_more hr (.inr (by omega)), keep_none (lastA_none (Int.le_refl _) h0), lastA_succ h0]
theorem last_look {g i n : Int} (h0 : 0 ≤ i) (h1 : i < n) : lookAt (lastA g n) 0 g i = some [g, i, 100 + i, 1] := by
  have key : ∀ (k : Nat), i < (k : Int) → lookAt (lastA g k) 0 g i = some [g, i, 100 + i, 1] := by
    intro k
    induction k with
    | zero => intro h; omega
    | succ k ih =>
      intro hk
      have e : lastA g ((k + 1 : Nat) : Int) = lastA g (k : Int) ++ [[g, (k : Int), 100 + (k : Int), 1]] := by
        rw [show ((k + 1 : Nat) : Int) = (k : Int) + 1 by omega]; exact lastA_succ (by omega)
      unfold lookAt at *
      rw [e, Int.toNat_zero, List.drop_zero, List.find?_append]
      by_cases hik : i < (k : Int)
      · have := ih hik
        rw [Int.toNat_zero, List.drop_zero] at this
        rw [this]; rfl
      · have hik : i = k := by omega
        have := lastA_none (g := g) (i := k) (j := i) (by omega) (by omega)
        rw [List.find?_eq_none.2 (fun x hx => List.any_eq_false.1 this x hx), Option.none_or, List.find?_cons_of_pos]
        · rw [hik]
        · simp [pOf, at', hik]
  have := key n.toNat (by omega)
  rw [show ((n.toNat : Nat) : Int) = n by omega] at this
  exact this
theorem last_drop {g n : Int} (h0 : 1 ≤ n) : lookAt ((lastA g n).drop 1 ++ [[g, 1000, 9, 1]]) 0 g 0 = none := by
  unfold lookAt
  rw [Int.toNat_zero, List.drop_zero, List.find?_eq_none]
  intro x hx
  rcases List.mem_append.1 hx with hx | hx
  · unfold lastA at hx
    obtain ⟨j, hj, rfl⟩ := List.getElem_of_mem hx
    simp [pOf, at']; omega
  · rw [List.mem_singleton] at hx; subst hx
    simp [pOf, at']
theorem last_fill1000 {g n : Int} (h0 : 1 ≤ n) (h2 : n ≤ 64) (h3 : 1 ≤ g) (h4 : g ≤ 16) : fillL (lastA g n) n g 1000 9 1 = (lastA g n).drop 1 ++ [[g, 1000, 9, 1]] := by
  have hr : rightB g 1000 9 1 = true := by simp only [rightB, Bool.and_eq_true, decide_eq_true_eq]; omega
  exact fillL_room hr (lastA_none (by omega) (by omega)) (lastA_len (by omega))
theorem last_count {g n : Int} (h0 : 1 ≤ n) : (((lastA g n).drop 1 ++ [[g, 1000, 9, 1]]).countP (pTag g) : Int) = n ∧ keep (pTag g) ((lastA g n).drop 1 ++ [[g, 1000, 9, 1]]) = [] := by
  have hall : ∀ x ∈ (lastA g n).drop 1 ++ [[g, 1000, 9, 1]], pTag g x = true := by
    intro x hx
    rcases List.mem_append.1 hx with hx | hx
    · unfold lastA at hx
      obtain ⟨k, _, rfl⟩ := List.mem_map.1 (List.mem_of_mem_drop hx)
      simp [pTag, at']
    · rw [List.mem_singleton] at hx; subst hx; simp [pTag, at']
  have hl := lastA_len (g := g) (i := n) (by omega)
  constructor
  · rw [List.countP_eq_length.2 hall]; simp; omega
  · unfold keep; rw [List.filter_eq_nil_iff]; intro x hx; simp [hall x hx]
theorem one_mem {q : List Int → Bool} {x y : List Int} : ∀ {A : Tab}, A.countP q = 1 → x ∈ A → y ∈ A → q x = true → q y = true → x = y
  | [], _, h, _, _, _ => by cases h
  | a :: A, h, hx, hy, qx, qy => by
    rw [List.countP_cons] at h
    have none : (if q a = true then 1 else 0) = 1 → ∀ z ∈ A, q z = true → False := fun e z hz qz => by
      have := List.countP_pos_iff.2 ⟨z, hz, qz⟩; omega
    rcases List.mem_cons.1 hx with e | hx <;> rcases List.mem_cons.1 hy with e' | hy
    · rw [e, e']
    · exact (none (by simp [← e, qx]) y hy qy).elim
    · exact (none (by simp [← e', qy]) x hx qx).elim
    · refine one_mem (A := A) ?_ hx hy qx qy
      have := List.countP_pos_iff.2 ⟨x, hx, qx⟩
      split at h <;> omega
theorem nine_iff {A : Tab} {p : Int} : nineB A p = true ↔ A.countP (pTag 9) = 1 ∧ [9, p, 4000, 5] ∈ A := by
  simp [nineB, List.contains_iff_mem]
theorem nine_keep {A : Tab} {p : Int} {q : List Int → Bool} (h : nineB A p = true) (hq : q [9, p, 4000, 5] = false) : nineB (keep q A) p = true := by
  rw [nine_iff] at *
  have hm : [9, p, 4000, 5] ∈ keep q A := by unfold keep; rw [List.mem_filter]; exact ⟨h.2, by simp [hq]⟩
  refine ⟨?_, hm⟩
  have h1 : (keep q A).countP (pTag 9) ≤ A.countP (pTag 9) := by unfold keep; exact List.Sublist.countP_le List.filter_sublist
  have h2 : 0 < (keep q A).countP (pTag 9) := List.countP_pos_iff.2 ⟨_, hm, by simp [pTag, at']⟩
  omega
theorem nine_fill {A : Tab} {p s t p' f r : Int} (h : nineB A p = true) (ht : ¬ t = 9) (hl : ¬ (A.length : Int) = s) : nineB (fillL A s t p' f r) p = true := by
  cases hr : rightB t p' f r with
  | false => rw [fillL_wrong hr]; exact h
  | true =>
    rw [fillL_more hr (.inr hl)]
    have h1 := nine_keep (q := pOf t p') h (by simp [pOf, at']; intro e; exact absurd e.symm ht)
    rw [nine_iff] at *
    refine ⟨?_, List.mem_append.2 (.inl h1.2)⟩
    rw [List.countP_append, h1.1]
    have : List.countP (pTag 9) [[t, p', f, r]] = 0 := by simp [pTag, at', ht]
    omega
theorem nine_look {A : Tab} {p : Int} (h : nineB A p = true) : lookAt A 0 9 p = some [9, p, 4000, 5] := by
  rw [nine_iff] at h
  unfold lookAt
  rw [Int.toNat_zero, List.drop_zero]
  cases e : A.find? (pOf 9 p) with
  | none => have := List.find?_eq_none.1 e _ h.2; simp [pOf, at'] at this
  | some x =>
    have hx := List.mem_of_find?_eq_some e
    have hq := List.find?_some e
    rw [one_mem h.1 hx h.2 (by simp only [pOf, Bool.and_eq_true] at hq; exact hq.1) (by simp [pTag, at'])]
theorem fill_len1 (A : Tab) (s t p f r : Int) : (fillL A s t p f r).length ≤ A.length + 1 := by
  unfold fillL
  split
  · split
    · simp only [List.length_append, List.length_drop, List.length_singleton]; omega
    · have := len_keep (pOf t p) A; simp only [List.length_append, List.length_singleton]; omega
  · omega
theorem rightB_spec {t p f r : Int} (h : rightB t p f r = true) : 1 ≤ r ∧ r ≤ 7 := by
  simp only [rightB, Bool.and_eq_true, decide_eq_true_eq] at h; omega
theorem lookE_some {w t p f r : Int} (h0 : 0 ≤ w) (h1 : w ≤ 7) : lookE w (some [t, p, f, r]) = 0 ↔ Go.bits .andNot .i64 w r = 0 := by
  simp only [lookE, at', List.getD_cons_zero, List.getD_cons_succ]
  split
  · rename_i h
    constructor
    · intro e; cases e
    · intro e; rcases h with h | h | h
      · omega
      · omega
      · exact absurd e h
  · rename_i h
    simp only [true_iff]
    have h2 : ¬ ¬ Go.bits .andNot .i64 w r = 0 := fun e => h (.inr (.inr e))
    exact Decidable.not_not.1 h2
theorem lookF_some {w t p f r : Int} (h0 : 0 ≤ w) (h1 : w ≤ 7) (h : Go.bits .andNot .i64 w r = 0) : lookF w (some [t, p, f, r]) = f := by
  simp only [lookF, at', List.getD_cons_zero, List.getD_cons_succ]
  rw [if_neg]
  rintro (g | g | g)
  · omega
  · omega
  · exact g h
theorem andNot_zero (r : Int) : Go.bits .andNot .i64 0 r = 0 := by
  show IntKind.i64.wrap ((BitVec.ofInt 64 0 &&& ~~~BitVec.ofInt 64 r).toNat : Nat) = 0
  rw [show BitVec.ofInt 64 0 = 0#64 from rfl, BitVec.zero_and]; rfl
theorem lookE_fill {A : Tab} {s t p f r : Int} (h : rightB t p f r = true) : lookE r (lookAt (fillL A s t p f r) 0 t p) = 0 := by
  have := rightB_spec h
  rw [look_fill h, lookE_some (by omega) (by omega)]; exact andNot_self r
theorem lookF_fill {A : Tab} {s t p f r : Int} (h : rightB t p f r = true) : lookF r (lookAt (fillL A s t p f r) 0 t p) = f := by
  have := rightB_spec h
  rw [look_fill h]; exact lookF_some (by omega) (by omega) (andNot_self r)
theorem lookE_keep {A : Tab} {w t p : Int} : lookE w (lookAt (keep (pOf t p) A) 0 t p) = 4 := by rw [look_keep]; rfl
theorem last_lookE {g i n : Int} (h0 : 0 ≤ i) (h1 : i < n) : lookE 1 (lookAt (lastA g n) 0 g i) = 0 := by
  rw [last_look h0 h1, lookE_some (by omega) (by omega)]; rfl
theorem last_lookF {g i n : Int} (h0 : 0 ≤ i) (h1 : i < n) : lookF 1 (lookAt (lastA g n) 0 g i) = i + 100 := by
  rw [last_look h0 h1, lookF_some (by omega) (by omega) rfl]; omega
theorem last_all {g n : Int} (h0 : 1 ≤ n) (h2 : n ≤ 64) (h3 : 1 ≤ g) (h4 : g ≤ 16) :
    lookE 0 (lookAt (fillL (lastA g n) n g 1000 9 1) 0 g 0) = 4 ∧ lookF 0 (lookAt (fillL (lastA g n) n g 1000 9 1) 0 g 1000) = 9 ∧ lookE 0 (lookAt (fillL (lastA g n) n g 1000 9 1) 0 g 1000) = 0 ∧
    ((fillL (lastA g n) n g 1000 9 1).length : Int) = n ∧ ((fillL (lastA g n) n g 1000 9 1).countP (pTag g) : Int) = n ∧ ((keep (pTag g) (fillL (lastA g n) n g 1000 9 1)).length : Int) = 0 := by
  have hr : rightB g 1000 9 1 = true := by simp only [rightB, Bool.and_eq_true, decide_eq_true_eq]; omega
  have e := last_fill1000 (g := g) h0 h2 h3 h4
  have hl := lastA_len (g := g) (i := n) (by omega)
  refine ⟨by rw [e, last_drop h0]; rfl, ?_, ?_, ?_, ?_, ?_⟩
  · rw [look_fill hr]; exact lookF_some (by omega) (by omega) rfl
  · rw [look_fill hr, lookE_some (by omega) (by omega)]; rfl
  · rw [e]; simp only [List.length_append, List.length_drop, List.length_singleton]; omega
  · rw [e]; exact (last_count h0).1
  · rw [e, (last_count h0).2]; rfl
theorem nine_count {A : Tab} {p : Int} (h : nineB A p = true) : ((A.countP (pTag 9) : Nat) : Int) = 1 := by
  rw [nine_iff] at h; rw [h.1]; rfl
theorem nine_start {p : Int} (h0 : 0 ≤ p) (h1 : p ≤ 65535) : nineB (fillL [] 64 9 p 4000 5) p = true := by
  have hr : rightB 9 p 4000 5 = true := by simp only [rightB, Bool.and_eq_true, decide_eq_true_eq]; omega
  rw [fillL_more hr (.inr (by simp)), nine_iff]
  simp [keep, pTag, at']
theorem nine_lookE {A : Tab} {p : Int} (h : nineB A p = true) : lookE 5 (lookAt A 0 9 p) = 0 := by
  rw [nine_look h, lookE_some (by omega) (by omega)]; rfl
theorem nine_lookF {A : Tab} {p : Int} (h : nineB A p = true) : lookF 5 (lookAt A 0 9 p) = 4000 := by
  rw [nine_look h, lookF_some (by omega) (by omega) rfl]
theorem or_le {a b : Int} (ha : 0 ≤ a) (ha' : a ≤ 7) (hb : 0 ≤ b) (hb' : b ≤ 7) : (BitVec.ofInt 64 (Go.bits .or .i64 a b) = BitVec.ofInt 64 a ||| BitVec.ofInt 64 b) ∧ 0 ≤ Go.bits .or .i64 a b ∧ Go.bits .or .i64 a b ≤ 7 := by
  have : ∀ a b : Fin 8, (BitVec.ofInt 64 (Go.bits .or .i64 a.val b.val) = BitVec.ofInt 64 a.val ||| BitVec.ofInt 64 b.val) ∧ 0 ≤ Go.bits .or .i64 a.val b.val ∧ Go.bits .or .i64 a.val b.val ≤ 7 := by decide
  have := this ⟨a.toNat, by omega⟩ ⟨b.toNat, by omega⟩
  simp only [Int.toNat_of_nonneg ha, Int.toNat_of_nonneg hb] at this
  exact this
theorem andNot_iff (a r : Int) (ha : 0 ≤ a) (ha' : a ≤ 7) : Go.bits .andNot .i64 a r = 0 ↔ BitVec.ofInt 64 a &&& ~~~BitVec.ofInt 64 r = 0#64 := by
  have e : (BitVec.ofInt 64 a).toNat = a.toNat := by rw [BitVec.toNat_ofInt]; omega
  have hm : (BitVec.ofInt 64 a &&& ~~~BitVec.ofInt 64 r).toNat ≤ 7 := by
    rw [BitVec.toNat_and, e]
    have := @Nat.and_le_left a.toNat (~~~BitVec.ofInt 64 r).toNat
    omega
  show IntKind.i64.wrap ((BitVec.ofInt 64 a &&& ~~~BitVec.ofInt 64 r).toNat : Nat) = 0 ↔ _
  rw [wrap_in (by simp only [kmin]; omega) (by simp only [kmax]; omega), ← BitVec.toNat_inj]; simp
theorem or_andNot {a b r : Int} (ha : 0 ≤ a) (ha' : a ≤ 7) (hb : 0 ≤ b) (hb' : b ≤ 7) : Go.bits .andNot .i64 (Go.bits .or .i64 a b) r = 0 ↔ Go.bits .andNot .i64 a r = 0 ∧ Go.bits .andNot .i64 b r = 0 := by
  obtain ⟨e, h1, h2⟩ := or_le ha ha' hb hb'
  rw [andNot_iff _ r h1 h2, andNot_iff a r ha ha', andNot_iff b r hb hb', e]
  constructor
  · intro h
    constructor
    · apply BitVec.eq_of_getLsbD_eq
      intro i hi
      have := congrArg (fun x => x.getLsbD i) h
      simp [hi] at this ⊢
      intro g; exact this (.inl g)
    · apply BitVec.eq_of_getLsbD_eq
      intro i hi
      have := congrArg (fun x => x.getLsbD i) h
      simp [hi] at this ⊢
      intro g; exact this (.inr g)
  · rintro ⟨h, k⟩
    apply BitVec.eq_of_getLsbD_eq
    intro i hi
    have h := congrArg (fun x => x.getLsbD i) h
    have k := congrArg (fun x => x.getLsbD i) k
    simp [hi] at h k ⊢
    rintro (g | g)
    · exact h g
    · exact k g
theorem rights_all {A : Tab} {s t p f r a b : Int} (h : rightB t p f r = true) (ha : 0 ≤ a) (ha' : a ≤ 7) (hb : 0 ≤ b) (hb' : b ≤ 7) :
    (lookE (Go.bits .or .i64 a b) (lookAt (fillL A s t p f r) 0 t p) = 0 ↔ lookE a (lookAt (fillL A s t p f r) 0 t p) = 0 ∧ lookE b (lookAt (fillL A s t p f r) 0 t p) = 0) ∧
    lookE 0 (lookAt (fillL A s t p f r) 0 t p) = 0 ∧ lookF 0 (lookAt (fillL A s t p f r) 0 t p) = f := by
  obtain ⟨_, h1, h2⟩ := or_le ha ha' hb hb'
  rw [look_fill h, lookE_some h1 h2, lookE_some ha ha', lookE_some hb hb', lookE_some (by omega) (by omega)]
  exact ⟨or_andNot ha ha' hb hb', andNot_zero r, lookF_some (by omega) (by omega) (andNot_zero r)⟩
theorem fill_not {t p f r s : Int} (h : ¬ (if rightB t p f r = true then (0 : Int) else 1) = 0) : ((fillL [] s t p f r).length : Int) = 0 := by
  cases e : rightB t p f r with
  | true => rw [e] at h; simp at h
  | false => rw [fillL_wrong e]; rfl
theorem tmod_range {a n : Int} (h : 0 ≤ a) (hn : 0 < n) : 0 ≤ a.tmod n ∧ a.tmod n < n := ⟨Int.tmod_nonneg _ h, Int.tmod_lt_of_pos a hn⟩
end Go.SF.C14
