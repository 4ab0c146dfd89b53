/- What the functions of chapter 14 compute, in plain Lean; and the numbers by which the machine of unknowns names them. -/
import Derived.Test.YtlbppnfmahnnaaaSFSimp
namespace Go.SF.C14
open Go.SF
set_option linter.unusedVariables false

/-- A row's cell. -/
abbrev at' (row : List Int) (j : Nat) : Int := row.getD j 0
/-- Of a tag and a page; of a tag; of a frame. -/
def pOf (tag page : Int) (row : List Int) : Bool := decide (at' row 0 = tag) && decide (at' row 1 = page)
def pTag (tag : Int) (row : List Int) : Bool := decide (at' row 0 = tag)
def pFrame (f : Int) (row : List Int) : Bool := decide (at' row 2 = f)

/-- The sweep, from the line before k down: the lines; how many were taken away. -/
def sweepA (p : List Int → Bool) : Nat → Tab → Tab
  | 0, A => A
  | k + 1, A => sweepA p k (if p (A.getD k []) then A.take k ++ A.drop (k + 1) else A)
def sweepN (p : List Int → Bool) : Nat → Tab → Int → Int
  | 0, A, n => n
  | k + 1, A, n => sweepN p k (if p (A.getD k []) then A.take k ++ A.drop (k + 1) else A) (if p (A.getD k []) then IntKind.i64.wrap (n + 1) else n)

/-- Lines but those of which p is so. -/
def keep (p : List Int → Bool) (A : Tab) : Tab := A.filter fun r => !p r
/-- A line that can be. -/
def rightB (t p f r : Int) : Bool := decide (1 ≤ t) && decide (t ≤ 16) && decide (0 ≤ p) && decide (p < 65536) && decide (0 ≤ f) && decide (f < 4096) && decide (1 ≤ r) && decide (r ≤ 7)
/-- A line is filled. -/
def fillL (A : Tab) (size t p f r : Int) : Tab :=
  if rightB t p f r then
    (if A.any (pOf t p) = false ∧ (A.length : Int) = size then A.drop 1 else keep (pOf t p) A) ++ [[t, p, f, r]]
  else A
/-- What Look tells, from line i on: the line, if there is one. -/
def lookAt (A : Tab) (i t p : Int) : Option (List Int) := (A.drop i.toNat).find? (pOf t p)
def lookF (want : Int) : Option (List Int) → Int
  | none => 0
  | some r => if want < 0 ∨ 7 < want ∨ ¬ Go.bits .andNot .i64 want (at' r 3) = 0 then 0 else at' r 2
def lookE (want : Int) : Option (List Int) → Int
  | none => 4
  | some r => if want < 0 ∨ 7 < want ∨ ¬ Go.bits .andNot .i64 want (at' r 3) = 0 then 7 else 0

/-- What without keeps, from line i on, behind what was kept. -/
def wkT (p : List Int → Bool) (A B : Tab) (i : Int) : Tab := B ++ keep p (A.drop i.toNat)
def fI : Nat → List Arg → Int
  | 100, [.inr A, .inl i, .inl n, .inl tag, .inl page] => sweepN (pOf tag page) (i + 1).toNat A n
  | 101, [.inr A, .inl i, .inl n, .inl tag] => sweepN (pTag tag) (i + 1).toNat A n
  | 102, [.inr A, .inl i, .inl n, .inl f] => sweepN (pFrame f) (i + 1).toNat A n
  | 111, [.inr A, .inl t] => ((A.countP (pTag t) : Nat) : Int)
  | 112, [.inr A, .inl f] => ((A.countP (pFrame f) : Nat) : Int)
  | 120, [.inl t, .inl p, .inl f, .inl r] => if rightB t p f r then 0 else 1
  | 130, [.inr A, .inl i, .inl t, .inl p, .inl w] => lookF w (lookAt A i t p)
  | 131, [.inr A, .inl i, .inl t, .inl p, .inl w] => lookE w (lookAt A i t p)
  | _, _ => 0
def fL : Nat → List Arg → Tab
  | 100, [.inr A, .inl i, .inl tag, .inl page] => sweepA (pOf tag page) (i + 1).toNat A
  | 101, [.inr A, .inl i, .inl tag] => sweepA (pTag tag) (i + 1).toNat A
  | 102, [.inr A, .inl i, .inl f] => sweepA (pFrame f) (i + 1).toNat A
  | 140, [.inr A, .inr B, .inl i, .inl t, .inl p] => wkT (pOf t p) A B i
  | 141, [.inr A, .inr B, .inl i, .inl t] => wkT (pTag t) A B i
  | 142, [.inr A, .inr B, .inl i, .inl f] => wkT (pFrame f) A B i
  | 110, [.inr A, .inl t, .inl p] => keep (pOf t p) A
  | 111, [.inr A, .inl t] => keep (pTag t) A
  | 112, [.inr A, .inl f] => keep (pFrame f) A
  | 120, [.inr A, .inl s, .inl t, .inl p, .inl f, .inl r] => fillL A s t p f r
  | _, _ => []
def fB : Nat → List Arg → Bool
  | 100, [.inr A, .inl t, .inl p] => A.any (pOf t p)
  | 130, [.inr A, .inl i, .inl t, .inl p] => (lookAt A i t p).isSome
  | _, _ => false
def Φ : Sig := ⟨fI, fL, fB, fun _ _ _ _ => False, fun _ _ _ _ _ h _ => h⟩
theorem aL140 (A B : Tab) (i t p : Int) : Φ.appL 140 [.inr A, .inr B, .inl i, .inl t, .inl p] = wkT (pOf t p) A B i := rfl
theorem aL141 (A B : Tab) (i t : Int) : Φ.appL 141 [.inr A, .inr B, .inl i, .inl t] = wkT (pTag t) A B i := rfl
theorem aL142 (A B : Tab) (i t : Int) : Φ.appL 142 [.inr A, .inr B, .inl i, .inl t] = wkT (pFrame t) A B i := rfl
theorem aI111 (A : Tab) (t : Int) : Φ.appI 111 [.inr A, .inl t] = ((A.countP (pTag t) : Nat) : Int) := rfl
theorem aI112 (A : Tab) (t : Int) : Φ.appI 112 [.inr A, .inl t] = ((A.countP (pFrame t) : Nat) : Int) := rfl
theorem aI120 (t p f r : Int) : Φ.appI 120 [.inl t, .inl p, .inl f, .inl r] = if rightB t p f r then 0 else 1 := rfl
theorem aI130 (A : Tab) (i t p w : Int) : Φ.appI 130 [.inr A, .inl i, .inl t, .inl p, .inl w] = lookF w (lookAt A i t p) := rfl
theorem aI131 (A : Tab) (i t p w : Int) : Φ.appI 131 [.inr A, .inl i, .inl t, .inl p, .inl w] = lookE w (lookAt A i t p) := rfl
theorem aL110 (A : Tab) (t p : Int) : Φ.appL 110 [.inr A, .inl t, .inl p] = keep (pOf t p) A := rfl
theorem aL111 (A : Tab) (t : Int) : Φ.appL 111 [.inr A, .inl t] = keep (pTag t) A := rfl
theorem aL112 (A : Tab) (t : Int) : Φ.appL 112 [.inr A, .inl t] = keep (pFrame t) A := rfl
theorem aL120 (A : Tab) (s t p f r : Int) : Φ.appL 120 [.inr A, .inl s, .inl t, .inl p, .inl f, .inl r] = fillL A s t p f r := rfl
theorem aB100 (A : Tab) (t p : Int) : Φ.fB 100 [.inr A, .inl t, .inl p] = A.any (pOf t p) := rfl
theorem aB130 (A : Tab) (i t p : Int) : Φ.fB 130 [.inr A, .inl i, .inl t, .inl p] = (lookAt A i t p).isSome := rfl
theorem aI100 (A : Tab) (i n t p : Int) : Φ.appI 100 [.inr A, .inl i, .inl n, .inl t, .inl p] = sweepN (pOf t p) (i + 1).toNat A n := rfl
theorem aL100 (A : Tab) (i t p : Int) : Φ.appL 100 [.inr A, .inl i, .inl t, .inl p] = sweepA (pOf t p) (i + 1).toNat A := rfl
theorem aI101 (A : Tab) (i n t : Int) : Φ.appI 101 [.inr A, .inl i, .inl n, .inl t] = sweepN (pTag t) (i + 1).toNat A n := rfl
theorem aL101 (A : Tab) (i t : Int) : Φ.appL 101 [.inr A, .inl i, .inl t] = sweepA (pTag t) (i + 1).toNat A := rfl
theorem aI102 (A : Tab) (i n t : Int) : Φ.appI 102 [.inr A, .inl i, .inl n, .inl t] = sweepN (pFrame t) (i + 1).toNat A n := rfl
theorem aL102 (A : Tab) (i t : Int) : Φ.appL 102 [.inr A, .inl i, .inl t] = sweepA (pFrame t) (i + 1).toNat A := rfl

theorem sweepA_yes {p : List Int → Bool} {A : Tab} {i : Int} (h : 0 ≤ i) (hp : p (A.getD i.toNat []) = true) : sweepA p (i + 1).toNat A = sweepA p (i - 1 + 1).toNat (A.take i.toNat ++ A.drop (i + 1).toNat) := by
  rw [show (i + 1).toNat = i.toNat + 1 by omega, show (i - 1 + 1).toNat = i.toNat by omega, sweepA, if_pos hp]
theorem sweepA_no {p : List Int → Bool} {A : Tab} {i : Int} (h : 0 ≤ i) (hp : p (A.getD i.toNat []) = false) : sweepA p (i + 1).toNat A = sweepA p (i - 1 + 1).toNat A := by
  rw [show (i + 1).toNat = i.toNat + 1 by omega, show (i - 1 + 1).toNat = i.toNat by omega, sweepA, if_neg (by rw [hp]; simp)]
theorem sweepA_end {p : List Int → Bool} {A : Tab} {i : Int} (h : i < 0) : sweepA p (i + 1).toNat A = A := by
  rw [show (i + 1).toNat = 0 by omega, sweepA]
theorem sweepN_yes {p : List Int → Bool} {A : Tab} {i n : Int} (h : 0 ≤ i) (hp : p (A.getD i.toNat []) = true) : sweepN p (i + 1).toNat A n = sweepN p (i - 1 + 1).toNat (A.take i.toNat ++ A.drop (i + 1).toNat) (IntKind.i64.wrap (n + 1)) := by
  rw [show (i + 1).toNat = i.toNat + 1 by omega, show (i - 1 + 1).toNat = i.toNat by omega, sweepN, if_pos hp, if_pos hp]
theorem sweepN_no {p : List Int → Bool} {A : Tab} {i n : Int} (h : 0 ≤ i) (hp : p (A.getD i.toNat []) = false) : sweepN p (i + 1).toNat A n = sweepN p (i - 1 + 1).toNat A n := by
  rw [show (i + 1).toNat = i.toNat + 1 by omega, show (i - 1 + 1).toNat = i.toNat by omega, sweepN, if_neg (by rw [hp]; simp), if_neg (by rw [hp]; simp)]
theorem sweepN_end {p : List Int → Bool} {A : Tab} {i n : Int} (h : i < 0) : sweepN p (i + 1).toNat A n = n := by
  rw [show (i + 1).toNat = 0 by omega, sweepN]

/-! ### what the sweep comes to -/
theorem keep_snoc (p : List Int → Bool) (X : Tab) (x : List Int) : keep p (X ++ [x]) = keep p X ++ if p x then [] else [x] := by
  unfold keep; rw [List.filter_append]; cases h : p x <;> simp [h]
theorem count_snoc (p : List Int → Bool) (X : Tab) (x : List Int) : (X ++ [x]).countP p = X.countP p + if p x then 1 else 0 := by
  rw [List.countP_append]; cases h : p x <;> simp [h]
theorem sweepA_keep (p : List Int → Bool) : ∀ (k : Nat) (A : Tab), k ≤ A.length → sweepA p k A = keep p (A.take k) ++ A.drop k
  | 0, A, _ => by simp [sweepA, keep]
  | k + 1, A, h => by
    have hk : k < A.length := by omega
    have e1 : A.take (k + 1) = A.take k ++ [A[k]] := by rw [List.take_succ_eq_append_getElem hk]
    have e2 : A.drop k = A[k] :: A.drop (k + 1) := List.drop_eq_getElem_cons hk
    have e3 : A.getD k [] = A[k] := by simp [List.getD, hk]
    rw [sweepA, e3]
    split
    · rename_i hp
      have hl : (A.take k ++ A.drop (k + 1)).take k = A.take k := by rw [List.take_append_of_le_length (by simp; omega), List.take_take, Nat.min_self]
      have hd : (A.take k ++ A.drop (k + 1)).drop k = A.drop (k + 1) := by rw [List.drop_append_of_le_length (by simp; omega), List.drop_take, Nat.sub_self, List.take_zero, List.nil_append]
      rw [sweepA_keep p k _ (by simp; omega), hl, hd, e1, keep_snoc, if_pos hp, List.append_nil]
    · rename_i hp
      rw [sweepA_keep p k A (by omega), e1, e2, keep_snoc, if_neg hp, List.append_assoc]; rfl
theorem sweepN_count (p : List Int → Bool) : ∀ (k : Nat) (A : Tab) (n : Int), k ≤ A.length → 0 ≤ n → n + k < 1000000 → sweepN p k A n = n + ((A.take k).countP p : Nat)
  | 0, A, n, _, _, _ => by simp [sweepN]
  | k + 1, A, n, h, h0, h1 => by
    have hk : k < A.length := by omega
    have e1 : A.take (k + 1) = A.take k ++ [A[k]] := by rw [List.take_succ_eq_append_getElem hk]
    have e3 : A.getD k [] = A[k] := by simp [List.getD, hk]
    rw [sweepN, e3]
    split
    · rename_i hp
      have hl : (A.take k ++ A.drop (k + 1)).take k = A.take k := by rw [List.take_append_of_le_length (by simp; omega), List.take_take, Nat.min_self]
      rw [wrap_in (by simp only [kmin]; omega) (by simp only [kmax]; omega), sweepN_count p k _ (n + 1) (by simp; omega) (by omega) (by omega), hl, e1, count_snoc, if_pos hp]; omega
    · rename_i hp
      rw [sweepN_count p k A n (by omega) h0 (by omega), e1, count_snoc, if_neg hp]; simp
theorem sweepA_all (p : List Int → Bool) (A : Tab) : sweepA p ((A.length : Int) - 1 + 1).toNat A = keep p A := by
  rw [show ((A.length : Int) - 1 + 1).toNat = A.length by omega, sweepA_keep p _ A (Nat.le_refl _)]; simp
theorem sweepN_all (p : List Int → Bool) (A : Tab) (h : (A.length : Int) < 100000) : sweepN p ((A.length : Int) - 1 + 1).toNat A 0 = (A.countP p : Nat) := by
  rw [show ((A.length : Int) - 1 + 1).toNat = A.length by omega, sweepN_count p _ A 0 (Nat.le_refl _) (by omega) (by omega)]; simp
theorem keep_len (p : List Int → Bool) (A : Tab) : (keep p A).length ≤ A.length := List.length_filter_le _ _
theorem any_count (p : List Int → Bool) (A : Tab) : A.any p = decide (0 < A.countP p) := by
  rw [Bool.eq_iff_iff, decide_eq_true_eq, List.countP_pos_iff, List.any_eq_true]
theorem keep_none {p : List Int → Bool} {A : Tab} (h : A.any p = false) : keep p A = A := by
  unfold keep
  rw [List.filter_eq_self]
  intro x hx
  have := List.any_eq_false.1 h x hx
  simpa using this
theorem fillL_wrong {A : Tab} {s t p f r : Int} (h : rightB t p f r = false) : fillL A s t p f r = A := by simp [fillL, h]
theorem fillL_room {A : Tab} {s t p f r : Int} (h : rightB t p f r = true) (h1 : A.any (pOf t p) = false) (h2 : (A.length : Int) = s) : fillL A s t p f r = A.drop 1 ++ [[t, p, f, r]] := by
  unfold fillL; rw [if_pos h, if_pos ⟨h1, h2⟩]
theorem fillL_more {A : Tab} {s t p f r : Int} (h : rightB t p f r = true) (h1 : A.any (pOf t p) = true ∨ ¬ (A.length : Int) = s) : fillL A s t p f r = keep (pOf t p) A ++ [[t, p, f, r]] := by
  unfold fillL; rw [if_pos h, if_neg]
  rintro ⟨h2, h3⟩
  rcases h1 with h1 | h1
  · rw [h1] at h2; cases h2
  · exact h1 h3
theorem lookAt_yes {A : Tab} {i t p : Int} (h0 : 0 ≤ i) (h1 : i < A.length) (h : pOf t p (A.getD i.toNat []) = true) : lookAt A i t p = some (A.getD i.toNat []) := by
  have hk : i.toNat < A.length := by omega
  unfold lookAt
  rw [List.drop_eq_getElem_cons hk, List.find?_cons_of_pos]
  · simp [List.getD, hk]
  · simpa [List.getD, hk] using h
theorem lookAt_no {A : Tab} {i t p : Int} (h0 : 0 ≤ i) (h1 : i < A.length) (h : pOf t p (A.getD i.toNat []) = false) : lookAt A i t p = lookAt A (i + 1) t p := by
  have hk : i.toNat < A.length := by omega
  unfold lookAt
  rw [List.drop_eq_getElem_cons hk, List.find?_cons_of_neg, show (i + 1).toNat = i.toNat + 1 by omega]
  simpa [List.getD, hk] using h
theorem lookAt_end {A : Tab} {i t p : Int} (h1 : ¬ i < A.length) : lookAt A i t p = none := by
  unfold lookAt
  rw [List.drop_of_length_le (by omega)]; rfl
theorem wkT_yes {p : List Int → Bool} {A B : Tab} {i : Int} (h0 : 0 ≤ i) (h1 : i < A.length) (hp : p (A.getD i.toNat []) = true) : wkT p A B i = wkT p A B (i + 1) := by
  have hk : i.toNat < A.length := by omega
  have e3 : A.getD i.toNat [] = A[i.toNat] := by simp [List.getD, hk]
  rw [e3] at hp
  unfold wkT keep
  rw [show (i + 1).toNat = i.toNat + 1 by omega, List.drop_eq_getElem_cons hk, List.filter_cons_of_neg (by simp [hp])]
theorem wkT_no {p : List Int → Bool} {A B : Tab} {i : Int} (h0 : 0 ≤ i) (h1 : i < A.length) (hp : p (A.getD i.toNat []) = false) : wkT p A B i = wkT p A (B ++ [A.getD i.toNat []]) (i + 1) := by
  have hk : i.toNat < A.length := by omega
  have e3 : A.getD i.toNat [] = A[i.toNat] := by simp [List.getD, hk]
  rw [e3] at hp ⊢
  unfold wkT keep
  rw [show (i + 1).toNat = i.toNat + 1 by omega, List.drop_eq_getElem_cons hk, List.filter_cons_of_pos (by simp [hp]), List.append_assoc]; rfl
theorem wkT_end {p : List Int → Bool} {A B : Tab} {i : Int} (h1 : ¬ i < A.length) : wkT p A B i = B := by
  unfold wkT keep; rw [List.drop_of_length_le (by omega)]; simp
theorem wkT_len {p : List Int → Bool} {A B : Tab} {i : Int} (h0 : 0 ≤ i) (h1 : i ≤ A.length) (h : (B.length : Int) ≤ i) : (wkT p A B i).length ≤ A.length := by
  unfold wkT keep; rw [List.length_append]
  have := List.length_filter_le (fun r => !p r) (A.drop i.toNat)
  rw [List.length_drop] at this; omega
theorem wkT_all (p : List Int → Bool) (A : Tab) : wkT p A [] 0 = keep p A := by simp [wkT]
theorem bv_sub (a b : BitVec 64) : a &&& ~~~b = 0#64 ↔ b &&& a = a := by
  constructor
  · intro h
    apply BitVec.eq_of_getLsbD_eq
    intro i hi
    have := congrArg (fun x => x.getLsbD i) h
    simp [hi] at this
    simp
    intro ha
    exact this ha
  · intro h
    apply BitVec.eq_of_getLsbD_eq
    intro i hi
    have := congrArg (fun x => x.getLsbD i) h
    simp at this
    simp [hi]
    exact this
theorem and_mask {w x : Int} (h0 : 0 ≤ w) (h1 : w ≤ 7) : Go.bits .and .i64 x w = w ↔ Go.bits .andNot .i64 w x = 0 := by
  have ha : (BitVec.ofInt 64 w).toNat = w.toNat := by
    rw [BitVec.toNat_ofInt]; omega
  show IntKind.i64.wrap ((BitVec.ofInt 64 x &&& BitVec.ofInt 64 w).toNat : Nat) = w ↔ IntKind.i64.wrap ((BitVec.ofInt 64 w &&& ~~~BitVec.ofInt 64 x).toNat : Nat) = 0
  have hl : (BitVec.ofInt 64 x &&& BitVec.ofInt 64 w).toNat ≤ 7 := by
    rw [BitVec.toNat_and, ha]
    have := @Nat.and_le_right (BitVec.ofInt 64 x).toNat w.toNat
    omega
  have hm : (BitVec.ofInt 64 w &&& ~~~BitVec.ofInt 64 x).toNat ≤ 7 := by
    rw [BitVec.toNat_and, ha]
    have := @Nat.and_le_left w.toNat (~~~BitVec.ofInt 64 x).toNat
    omega
  rw [wrap_in (by simp only [kmin]; omega) (by simp only [kmax]; omega), wrap_in (by simp only [kmin]; omega) (by simp only [kmax]; omega)]
  have e1 : (((BitVec.ofInt 64 x &&& BitVec.ofInt 64 w).toNat : Nat) : Int) = w ↔ BitVec.ofInt 64 x &&& BitVec.ofInt 64 w = BitVec.ofInt 64 w := by
    rw [← BitVec.toNat_inj, ha]; omega
  have e2 : (((BitVec.ofInt 64 w &&& ~~~BitVec.ofInt 64 x).toNat : Nat) : Int) = 0 ↔ BitVec.ofInt 64 w &&& ~~~BitVec.ofInt 64 x = 0#64 := by
    rw [← BitVec.toNat_inj]; simp
  rw [e1, e2, bv_sub]
theorem getD_mem {A : Tab} {i : Int} (h0 : 0 ≤ i) (h1 : i < A.length) : A.getD i.toNat [] ∈ A := by
  have hk : i.toNat < A.length := by omega
  simp [List.getD, hk]
theorem row4 {k0 k1 k2 k3 : CK} {row : List Int} (h : okRow [k0, k1, k2, k3] row) : [row.getD 0 0, row.getD 1 0, row.getD 2 0, row.getD 3 0] = row := by
  match row, h with
  | [a, b, c, d], _ => rfl
theorem tri {W W' : Tab} {n : Int} (e : W = W') (h : (W'.length : Int) ≤ n) : (W.length : Int) ≤ n ∧ (W.length : Int) = W'.length ∧ W = W' := by subst e; exact ⟨h, rfl, rfl⟩
theorem drop_step {A : Tab} {i : Int} (h0 : 0 ≤ i) (h1 : i < A.length) : A.drop i.toNat = A.getD i.toNat [] :: A.drop (i + 1).toNat := by
  have hk : i.toNat < A.length := by omega
  have e3 : A.getD i.toNat [] = A[i.toNat] := by simp [List.getD, hk]
  rw [e3, show (i + 1).toNat = i.toNat + 1 by omega]; exact List.drop_eq_getElem_cons hk
theorem row4_eq {k0 k1 k2 k3 : CK} {r s : List Int} (hr : okRow [k0, k1, k2, k3] r) (hs : okRow [k0, k1, k2, k3] s) (h : r.getD 0 0 = s.getD 0 0 ∧ r.getD 1 0 = s.getD 1 0 ∧ r.getD 2 0 = s.getD 2 0 ∧ r.getD 3 0 = s.getD 3 0) : r = s := by
  rw [← row4 hr, ← row4 hs, h.1, h.2.1, h.2.2.1, h.2.2.2]
theorem len_keep (p : List Int → Bool) (A : Tab) : (keep p A).length + A.countP p = A.length := by
  unfold keep
  rw [← List.countP_eq_length_filter]
  have := List.length_eq_countP_add_countP (p := p) (l := A)
  have e : List.countP (fun r => !p r) A = List.countP (fun a => decide ¬p a = true) A := List.countP_congr (by simp)
  omega
end Go.SF.C14
