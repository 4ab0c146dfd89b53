/- A machine of values with unknowns, second state: expressions, objects with tables, states, and what each of them stands for. -/
import Derived.WalkKit
import Derived.KernelRfl
namespace Go.SF
set_option linter.unusedVariables false

/-- A table: rows of numbers. -/
abbrev Tab := List (List Int)
abbrev Arg := Int ⊕ Tab

/-! ### expressions -/
mutual
inductive SI where
  | c (n : Int)
  | v (i : Nat)
  | add (a b : SI)
  | sub (a b : SI)
  | mul (a b : SI)
  | quo (a b : SI)
  | rem (a b : SI)
  | wrap (k : IntKind) (a : SI)
  | bits (op : BinOp) (k : IntKind) (a b : SI)
  | sel (A : SL) (r : SI) (j : Nat)
  | len (A : SL)
  | app (f : Nat) (xs : SA)
inductive SL where
  | v (i : Nat)
  | lit (A : Tab)
  | app (f : Nat) (xs : SA)
inductive SA where
  | nil
  | i (x : SI) (r : SA)
  | l (x : SL) (r : SA)
end

inductive SB where
  | c (b : Bool)
  | v (i : Nat)
  | lt (a b : SI)
  | le (a b : SI)
  | eq (a b : SI)
  | eqL (a b : SL)
  | not (x : SB)
  | and (x y : SB)
  | or (x y : SB)
  | app (f : Nat) (xs : SA)

def ints : List Arg → List Int
  | [] => []
  | .inl n :: r => n :: ints r
  | .inr _ :: r => ints r

/-- A row's key, its last cell. -/
def hdK (r : List Int) : Int := r.headD 0
def lastK (r : List Int) : Int := r.getLastD 0
/-- Maps as tables: rows of a key and its values, the keys rising. While one is gone through, a last cell tells what is still to come. -/
def findK (A : Tab) (k : Int) : Tab := A.filter fun r => decide (hdK r = k)
def putK (A : Tab) (row : List Int) : Tab := (A.filter fun r => decide (hdK r < hdK row)) ++ row :: A.filter fun r => decide (hdK row < hdK r)
def delK (A : Tab) (k : Int) : Tab := A.filter fun r => !decide (hdK r = k)
def flagT (A : Tab) : Tab := A.map (· ++ [1])
def unflagT (M : Tab) : Tab := M.map List.dropLast
def clrT (M : Tab) (k : Int) : Tab := M.map fun r => if hdK r = k then r.dropLast ++ [0] else r
def remT (M : Tab) : Tab := M.filter fun r => decide (lastK r = 1)
/-- Rows copied over rows, from lo on. -/
def copyT (A : Tab) (lo : Nat) (S : Tab) : Tab := if lo + S.length ≤ A.length then A.take lo ++ S ++ A.drop (lo + S.length) else A
theorem copyT_len (A : Tab) (lo : Nat) (S : Tab) : (copyT A lo S).length = A.length := by
  unfold copyT; split
  · simp; omega
  · rfl
/-- A row of a table as a table of its own, a cell a row; such a table put in a row's place. -/
def rowT (A : Tab) (r : Int) : Tab := (A.getD r.toNat []).map fun x => [x]
def setT (A : Tab) (r : Int) (S : Tab) : Tab := A.set r.toNat (S.map hdK)
theorem setT_len (A : Tab) (r : Int) (S : Tab) : (setT A r S).length = A.length := by simp [setT]
/-- A row of a slice in a slice, as a table of rows of n cells; and back. -/
def chunkG (n : Nat) : Nat → List Int → Tab
  | 0, _ => []
  | _ + 1, [] => []
  | f + 1, a :: l => (a :: l).take n :: chunkG n f ((a :: l).drop n)
def chunkN (n : Nat) (row : List Int) : Tab := if n = 1 then row.map (fun x => [x]) else chunkG n row.length row
def flatN (n : Nat) (S : Tab) : List Int := if n = 1 then S.map hdK else S.flatten
def rowN (n : Nat) (A : Tab) (r : Int) : Tab := chunkN n (A.getD r.toNat [])
def setN (n : Nat) (A : Tab) (r : Int) (S : Tab) : Tab := A.set r.toNat (flatN n S)
theorem setN_len (n : Nat) (A : Tab) (r : Int) (S : Tab) : (setN n A r S).length = A.length := by simp [setN]
theorem rowN_one (A : Tab) (r : Int) : rowN 1 A r = rowT A r := rfl
theorem setN_one (A : Tab) (r : Int) (S : Tab) : setN 1 A r S = setT A r S := rfl
theorem chunkG_flat {n : Nat} (hn : 0 < n) : ∀ (f : Nat) (l : List Int), l.length ≤ f → (chunkG n f l).flatten = l
  | 0, l, h => by
    have : l = [] := List.eq_nil_of_length_eq_zero (by omega)
    subst this; rfl
  | f + 1, [], _ => rfl
  | f + 1, a :: l, h => by
    have ih := chunkG_flat hn f ((a :: l).drop n) (by simp at h ⊢; omega)
    simp only [chunkG, List.flatten_cons, ih, List.take_append_drop]
theorem chunkG_of {n : Nat} (hn : 0 < n) : ∀ (f : Nat) (S : Tab), (∀ r ∈ S, r.length = n) → S.flatten.length ≤ f → chunkG n f S.flatten = S
  | 0, S, hS, h => by
    cases S with
    | nil => rfl
    | cons r S =>
      have h1 := hS r (List.mem_cons_self ..)
      have h2 : (r :: S).flatten.length = r.length + S.flatten.length := by rw [List.flatten_cons, List.length_append]
      omega
  | f + 1, [], _, _ => rfl
  | f + 1, r :: S, hS, h => by
    have hr := hS r (List.mem_cons_self ..)
    match r, hr with
    | [], hr => simp at hr; omega
    | a :: r, hr =>
      have ih := chunkG_of hn f S (fun x hx => hS x (List.mem_cons_of_mem _ hx)) (by
        have h2 : ((a :: r) :: S).flatten.length = (a :: r).length + S.flatten.length := by rw [List.flatten_cons, List.length_append]
        omega)
      have e1 : ((a :: r) ++ S.flatten).take n = a :: r := by rw [← hr]; simp
      have e2 : ((a :: r) ++ S.flatten).drop n = S.flatten := by rw [← hr]; simp
      show chunkG n (f + 1) (a :: (r ++ S.flatten)) = _
      have e1 : (a :: (r ++ S.flatten)).take n = a :: r := e1
      have e2 : (a :: (r ++ S.flatten)).drop n = S.flatten := e2
      simp only [chunkG, e1, e2, ih]
theorem flatN_chunk {n : Nat} (hn : 0 < n) (l : List Int) : flatN n (chunkN n l) = l := by
  unfold flatN chunkN
  by_cases h : n = 1
  · rw [if_pos h, if_pos h, List.map_map]
    have : (hdK ∘ fun x : Int => [x]) = id := by funext x; rfl
    rw [this, List.map_id]
  · rw [if_neg h, if_neg h]; exact chunkG_flat hn _ _ (Nat.le_refl _)
theorem chunkN_flat {n : Nat} (hn : 0 < n) (S : Tab) (hS : ∀ r ∈ S, r.length = n) : chunkN n (flatN n S) = S := by
  unfold flatN chunkN
  by_cases h : n = 1
  · rw [if_pos h, if_pos h, List.map_map]
    conv => rhs; rw [← List.map_id S]
    refine List.map_congr_left fun r hr => ?_
    have := hS r hr
    rw [h] at this
    match r, this with
    | [x], _ => rfl
  · rw [if_neg h, if_neg h]; exact chunkG_of hn _ _ hS (Nat.le_refl _)
theorem chunkN_nil (n : Nat) : chunkN n [] = [] := by unfold chunkN; split <;> rfl
/-- Channels as a table: a row for each: its number, and the cells of what waits in it (k each). -/
def rowK (M : Tab) (x : Int) : List Int := (findK M x).headD []
def cntT (M : Tab) (x k : Int) : Int := ((rowK M x).length - 1 : Nat) / k.toNat
def sndT (M : Tab) (x : Int) (cs : List Int) : Tab := M.map fun r => if hdK r = x then r ++ cs else r
def rcvT (M : Tab) (x k : Int) : Tab := M.map fun r => if hdK r = x then hdK r :: r.tail.drop k.toNat else r
/-- A text as a number: its bytes are digits from 1 to 256. -/
def decF : Nat → Nat → List UInt8
  | 0, _ => []
  | f + 1, n => if n = 0 then [] else decF f ((n - 1) / 256) ++ [UInt8.ofNat ((n - 1) % 256)]
def decL (n : Nat) : List UInt8 := decF n n
def encL (l : List UInt8) : Nat := l.foldl (fun n b => n * 256 + (b.toNat + 1)) 0
def strB (n : Int) : List UInt8 := decL n.toNat
def catS (a b : Int) : Int := encL (strB a ++ strB b)
def lenS (a : Int) : Int := (strB a).length
def atS (a i : Int) : Int := ((strB a).getD i.toNat 0).toNat
def subS (a lo hi : Int) : Int := encL (((strB a).take hi.toNat).drop lo.toNat)
def ofB (xs : List Int) : Int := encL (xs.map fun x => UInt8.ofNat x.toNat)
theorem decF_more : ∀ (f g n : Nat), n ≤ f → n ≤ g → decF f n = decF g n
  | 0, 0, n, _, _ => rfl
  | 0, g + 1, n, h, _ => by have : n = 0 := by omega
                            subst this; simp [decF]
  | f + 1, 0, n, _, h => by have : n = 0 := by omega
                            subst this; simp [decF]
  | f + 1, g + 1, n, h1, h2 => by
    simp only [decF]
    split
    · rfl
    · rw [decF_more f g ((n - 1) / 256) (by omega) (by omega)]
theorem encL_app (l : List UInt8) (b : UInt8) : encL (l ++ [b]) = encL l * 256 + (b.toNat + 1) := by simp [encL]
theorem decL_step (n : Nat) (h : n ≠ 0) : decL n = decL ((n - 1) / 256) ++ [UInt8.ofNat ((n - 1) % 256)] := by
  obtain ⟨m, rfl⟩ : ∃ m, n = m + 1 := ⟨n - 1, by omega⟩
  unfold decL
  rw [decF, if_neg (by omega), decF_more m ((m + 1 - 1) / 256) ((m + 1 - 1) / 256) (by omega) (Nat.le_refl _)]
theorem encL_decL : ∀ n : Nat, encL (decL n) = n := by
  intro n
  induction n using Nat.strongRecOn with
  | _ n ih =>
    by_cases h : n = 0
    · subst h; rfl
    · rw [decL_step n h, encL_app, ih _ (by omega)]
      simp
      omega
theorem decL_encL : ∀ l : List UInt8, decL (encL l) = l := by
  have key : ∀ (k : Nat) (l : List UInt8), l.length = k → decL (encL l) = l := by
    intro k
    induction k with
    | zero => intro l h; have : l = [] := List.eq_nil_of_length_eq_zero h; subst this; rfl
    | succ k ih =>
      intro l h
      have hne : l ≠ [] := fun e => by subst e; simp at h
      have e := List.dropLast_concat_getLast hne
      rw [← e, encL_app, decL_step _ (by omega)]
      have h1 : (encL l.dropLast * 256 + ((l.getLast hne).toNat + 1) - 1) / 256 = encL l.dropLast := by
        have := (l.getLast hne).toNat_lt
        omega
      have h2 : (encL l.dropLast * 256 + ((l.getLast hne).toNat + 1) - 1) % 256 = (l.getLast hne).toNat := by
        have := (l.getLast hne).toNat_lt
        omega
      rw [h1, h2, ih _ (by simp; omega)]
      simp
  exact fun l => key _ l rfl
theorem strB_enc (l : List UInt8) : strB (encL l : Int) = l := by simp [strB, decL_encL]
theorem enc_strB {n : Int} (h : 0 ≤ n) : ((encL (strB n) : Nat) : Int) = n := by simp [strB, encL_decL]; omega
theorem strB_inj {a b : Int} (ha : 0 ≤ a) (hb : 0 ≤ b) (h : strB a = strB b) : a = b := by rw [← enc_strB ha, ← enc_strB hb, h]
theorem strB_cat (a b : Int) : strB (catS a b) = strB a ++ strB b := by simp [catS, strB_enc]
/-- Functions that every law has: numbers below 100. -/
def stdI : Nat → List Arg → Int
  | 0, [.inl a, .inl b] => min a b
  | 1, [.inl a, .inl b] => max a b
  | 2, [.inr M, .inl x, .inl k] => cntT M x k
  | 3, [.inl a, .inl b] => catS a b
  | 4, [.inl a] => lenS a
  | 5, [.inl a, .inl i] => atS a i
  | 6, [.inl a, .inl lo, .inl hi] => subS a lo hi
  | 7, xs => ofB (ints xs)
  | _, _ => 0
def stdL : Nat → List Arg → Tab
  | 0, [.inr a, .inr b] => a ++ b
  | 1, [.inr a, .inl n] => a.take n.toNat
  | 2, [.inr a, .inl n] => a.drop n.toNat
  | 3, xs => [ints xs]
  | 4, .inr a :: .inl r :: .inl j :: .inl x :: [] => a.modify r.toNat fun row => row.set j.toNat x
  | 5, .inl n :: xs => List.replicate n.toNat (ints xs)
  | 6, [.inr A, .inl k] => findK A k
  | 7, .inr A :: xs => putK A (ints xs)
  | 8, [.inr A, .inl k] => delK A k
  | 9, [.inr A] => flagT A
  | 10, [.inr A] => unflagT A
  | 11, [.inr A, .inl k] => clrT A k
  | 12, [.inr A] => remT A
  | 13, [.inr A, .inl lo, .inr S] => copyT A lo.toNat S
  | 14, [.inr A, .inl r] => rowT A r
  | 15, [.inr A, .inl r, .inr S] => setT A r S
  | 18, [.inl n, .inr A, .inl r] => rowN n.toNat A r
  | 19, [.inl n, .inr A, .inl r, .inr S] => setN n.toNat A r S
  | 16, .inr M :: .inl x :: xs => sndT M x (ints xs)
  | 17, [.inr M, .inl x, .inl k] => rcvT M x k
  | _, _ => []

/-- Where an object lies: its block, its first cell, how many cells a row has, how many rows there is room for; whether it is nil; the blocks that are its own. -/
structure Loc where
  blk : Nat
  base : Nat
  str : Nat
  cap : Nat
  nl : Bool
  own : List Nat

/-- What functions mean, and the representations of a law's own. -/
structure Sig where
  fI : Nat → List Arg → Int
  fL : Nat → List Arg → Tab
  fB : Nat → List Arg → Bool
  rep : Nat → Tab → World → Loc → Prop
  stays : ∀ k A w w' l, rep k A w l → (∀ b ∈ l.own, w'.heap[b]? = w.heap[b]?) → rep k A w' l

def Sig.appI (Φ : Sig) (f : Nat) (xs : List Arg) : Int := if f < 100 then stdI f xs else Φ.fI f xs
def Sig.appL (Φ : Sig) (f : Nat) (xs : List Arg) : Tab := if f < 100 then stdL f xs else Φ.fL f xs

/-- What the unknowns stand for. -/
structure Env where
  i : Nat → Int
  b : Nat → Bool
  l : Nat → Tab

section
variable (Φ : Sig) (ρ : Env)
mutual
def SI.ev : SI → Int
  | .c n => n
  | .v i => ρ.i i
  | .add a b => SI.ev a + SI.ev b
  | .sub a b => SI.ev a - SI.ev b
  | .mul a b => SI.ev a * SI.ev b
  | .quo a b => (SI.ev a).tdiv (SI.ev b)
  | .rem a b => (SI.ev a).tmod (SI.ev b)
  | .wrap k a => k.wrap (SI.ev a)
  | .bits op k a b => Go.bits op k (SI.ev a) (SI.ev b)
  | .sel A r j => ((SL.ev A).getD (SI.ev r).toNat []).getD j 0
  | .len A => ((SL.ev A).length : Int)
  | .app f xs => Φ.appI f (SA.ev xs)
def SL.ev : SL → Tab
  | .v i => ρ.l i
  | .lit A => A
  | .app f xs => Φ.appL f (SA.ev xs)
def SA.ev : SA → List Arg
  | .nil => []
  | .i x r => .inl (SI.ev x) :: SA.ev r
  | .l x r => .inr (SL.ev x) :: SA.ev r
end
def SB.ev : SB → Bool
  | .c b => b
  | .v i => ρ.b i
  | .lt a b => decide (SI.ev Φ ρ a < SI.ev Φ ρ b)
  | .le a b => decide (SI.ev Φ ρ a ≤ SI.ev Φ ρ b)
  | .eq a b => decide (SI.ev Φ ρ a = SI.ev Φ ρ b)
  | .eqL a b => decide (SL.ev Φ ρ a = SL.ev Φ ρ b)
  | .not x => !SB.ev x
  | .and x y => SB.ev x && SB.ev y
  | .or x y => SB.ev x || SB.ev y
  | .app f xs => Φ.fB f (SA.ev Φ ρ xs)
end

/-! ### equality of expressions, by looking -/
mutual
def SI.same : SI → SI → Bool
  | .c n, .c m => decide (n = m)
  | .v i, .v j => Nat.beq i j
  | .add a b, .add c d => SI.same a c && SI.same b d
  | .sub a b, .sub c d => SI.same a c && SI.same b d
  | .mul a b, .mul c d => SI.same a c && SI.same b d
  | .quo a b, .quo c d => SI.same a c && SI.same b d
  | .rem a b, .rem c d => SI.same a c && SI.same b d
  | .wrap k a, .wrap l b => decide (k = l) && SI.same a b
  | .bits op k a b, .bits op' k' c d => decide (op = op') && decide (k = k') && SI.same a c && SI.same b d
  | .sel A r j, .sel B s k => Nat.beq j k && SI.same r s && SL.same A B
  | .len A, .len B => SL.same A B
  | .app f xs, .app g ys => Nat.beq f g && SA.same xs ys
  | _, _ => false
def SL.same : SL → SL → Bool
  | .v i, .v j => Nat.beq i j
  | .lit A, .lit B => decide (A = B)
  | .app f xs, .app g ys => Nat.beq f g && SA.same xs ys
  | _, _ => false
def SA.same : SA → SA → Bool
  | .nil, .nil => true
  | .i x r, .i y s => SI.same x y && SA.same r s
  | .l x r, .l y s => SL.same x y && SA.same r s
  | _, _ => false
end

mutual
theorem SI.same_eq : ∀ a b : SI, SI.same a b = true → a = b
  | .c n, b, h => by cases b <;> simp_all [SI.same]
  | .v n, b, h => by cases b <;> simp_all [SI.same]
  | .add x y, b, h => by
    cases b <;> simp only [SI.same, Bool.and_eq_true, Bool.false_eq_true] at h
    rw [SI.same_eq _ _ h.1, SI.same_eq _ _ h.2]
  | .sub x y, b, h => by
    cases b <;> simp only [SI.same, Bool.and_eq_true, Bool.false_eq_true] at h
    rw [SI.same_eq _ _ h.1, SI.same_eq _ _ h.2]
  | .mul x y, b, h => by
    cases b <;> simp only [SI.same, Bool.and_eq_true, Bool.false_eq_true] at h
    rw [SI.same_eq _ _ h.1, SI.same_eq _ _ h.2]
  | .quo x y, b, h => by
    cases b <;> simp only [SI.same, Bool.and_eq_true, Bool.false_eq_true] at h
    rw [SI.same_eq _ _ h.1, SI.same_eq _ _ h.2]
  | .rem x y, b, h => by
    cases b <;> simp only [SI.same, Bool.and_eq_true, Bool.false_eq_true] at h
    rw [SI.same_eq _ _ h.1, SI.same_eq _ _ h.2]
  | .wrap k x, b, h => by
    cases b <;> simp only [SI.same, Bool.and_eq_true, Bool.false_eq_true, decide_eq_true_eq] at h
    rw [h.1, SI.same_eq _ _ h.2]
  | .bits op k x y, b, h => by
    cases b <;> simp only [SI.same, Bool.and_eq_true, Bool.false_eq_true, decide_eq_true_eq] at h
    rw [h.1.1.1, h.1.1.2, SI.same_eq _ _ h.1.2, SI.same_eq _ _ h.2]
  | .sel A r j, b, h => by
    cases b <;> simp only [SI.same, Bool.and_eq_true, Bool.false_eq_true] at h
    rw [SL.same_eq _ _ h.2, SI.same_eq _ _ h.1.2, Nat.eq_of_beq_eq_true h.1.1]
  | .len A, b, h => by
    cases b <;> simp only [SI.same, Bool.false_eq_true] at h
    rw [SL.same_eq _ _ h]
  | .app f xs, b, h => by
    cases b <;> simp only [SI.same, Bool.and_eq_true, Bool.false_eq_true] at h
    rw [Nat.eq_of_beq_eq_true h.1, SA.same_eq _ _ h.2]
theorem SL.same_eq : ∀ a b : SL, SL.same a b = true → a = b
  | .v n, b, h => by cases b <;> simp_all [SL.same]
  | .lit A, b, h => by cases b <;> simp_all [SL.same]
  | .app f xs, b, h => by
    cases b <;> simp only [SL.same, Bool.and_eq_true, Bool.false_eq_true] at h
    rw [Nat.eq_of_beq_eq_true h.1, SA.same_eq _ _ h.2]
theorem SA.same_eq : ∀ a b : SA, SA.same a b = true → a = b
  | .nil, b, h => by cases b <;> simp_all [SA.same]
  | .i x r, b, h => by
    cases b <;> simp only [SA.same, Bool.and_eq_true, Bool.false_eq_true] at h
    rw [SI.same_eq _ _ h.1, SA.same_eq _ _ h.2]
  | .l x r, b, h => by
    cases b <;> simp only [SA.same, Bool.and_eq_true, Bool.false_eq_true] at h
    rw [SL.same_eq _ _ h.1, SA.same_eq _ _ h.2]
end

/-! ### values -/
/-- A place: the object, the row, the cell within the row. -/
structure Pt where
  id : Nat
  r : SI
  j : Nat

/-- Values that are told by a number: a channel (0: nil; else where it lies, and one), a text. -/
inductive QK where
  | ch
  | str
  deriving DecidableEq

/-- The value of one cell. 'vs': a slice of a table that is a call's own: from row lo on, len rows, room up to cap (none: as much as there is). -/
inductive CV where
  | b (x : SB)
  | i (k : IntKind) (x : SI)
  | s (x : ByteArray)
  | p (a : Option Pt)
  | sl (a : Option Pt) (len cap : SI)
  | vs (id : Nat) (lo len : SI) (cap : Option SI)
  | m (a : Option Nat)
  | cd (k : QK) (x : SI)
  | fn (f : Nat) (caps : List Pt)
  | nilfn

inductive AV where
  | cv (x : CV)
  | agg (cs : List CV)
  | tup (vs : List (CV ⊕ List CV))

/-- Kinds of a row's cells: a number of a kind, or a bool (0: no). -/
inductive CK where
  | i (k : IntKind)
  | b
  | cd (k : QK)
  deriving DecidableEq

/-- Kinds of objects that hold a table: a growing row of rows; a map from numbers to rows; one of a law's own. -/
inductive AK where
  | vec (ks : List CK) (ty : TypeId)
  | map (kk : IntKind) (ks : List CK) (sc : Bool)
  | user (n : Nat)
  | chans (ks : List CK) (cap : Nat)
  | sit
  deriving DecidableEq

inductive AObj where
  | cells (cs : List CV) (ty : TypeId)
  | ext (A : SL) (ks : List CK)
  | abs (k : AK) (A : SL)
  | iter (mid : Nat) (kk : IntKind) (ks : List CK) (sc : Bool) (M : SL) (cur : Option SI)
  | lists (mid : Nat) (k : List CK) (ety oty : TypeId) (A : SL) (op : Option (Nat × SI))
  | dead

def AObj.alive : AObj → Bool
  | .dead => false
  | _ => true
/-- Nothing else lies where it lies. -/
def AObj.excl : AObj → Bool
  | .cells .. => true
  | .abs .. => true
  | .iter .. => true
  | .lists .. => true
  | _ => false
theorem AObj.excl_alive {o : AObj} (h : o.excl = true) : o.alive = true := by cases o <;> simp_all [AObj.excl, AObj.alive]

/-- Objects; which are written; the next unknown that can be drawn. -/
structure Mem where
  o : List AObj
  wr : List Nat
  nx : Nat

/-- A frame's slots (n of them), and the objects. -/
structure St where
  n : Nat
  t : List (Nat × AV)
  m : Mem

def qVal : QK → Int → Value
  | .ch, n => if n.toNat = 0 then .chan none else .chan (some (n.toNat - 1))
  | .str, n => .string ⟨(strB n).toArray⟩
def ckVal : CK → Int → Value
  | .i k, n => .int k n
  | .b, n => .bool (decide (n ≠ 0))
  | .cd k, n => qVal k n
/-- The least and the greatest number of a kind. -/
def kmin : IntKind → Int
  | .i8 => -128 | .i16 => -32768 | .i32 => -2147483648 | .i64 => -9223372036854775808 | _ => 0
def kmax : IntKind → Int
  | .i8 => 127 | .i16 => 32767 | .i32 => 2147483647 | .i64 => 9223372036854775807
  | .u8 => 255 | .u16 => 65535 | .u32 => 4294967295 | .u64 => 18446744073709551615
/-- Is a kind's range looked after in tables? -/
def small : IntKind → Bool
  | .i64 => false
  | .u64 => false
  | _ => true
def okCell : CK → Int → Prop
  | .i k, n => small k = true → kmin k ≤ n ∧ n ≤ kmax k
  | .b, n => n = 0 ∨ n = 1
  | .cd _, n => 0 ≤ n
def okRow : List CK → List Int → Prop
  | [], [] => True
  | k :: ks, n :: ns => okCell k n ∧ okRow ks ns
  | _, _ => False
def rowVals : List CK → List Int → List Value
  | k :: ks, n :: ns => ckVal k n :: rowVals ks ns
  | _, _ => []

/-- A table that lies in a block of its own (or nowhere, where it is empty). -/
def RepVec (ks : List CK) (ty : TypeId) (A : Tab) (w : World) (l : Loc) : Prop :=
  l.str = ks.length ∧ 0 < ks.length ∧ (∀ row ∈ A, okRow ks row) ∧ A.length ≤ l.cap ∧ l.cap ≤ maxLen ∧
    if l.nl then l.cap = 0 ∧ l.own = [] else
      l.own = [l.blk] ∧ ∃ cs : Array Value, w.heap[l.blk]? = some (.cells cs ty (0, 0)) ∧ l.base + l.cap * l.str ≤ cs.size ∧
        ∀ (i : Nat) (v : Value), (A.flatMap (rowVals ks))[i]? = some v → cs[l.base + i]? = some v

def mapVal (ks : List CK) (sc : Bool) (row : List Int) : Value :=
  if sc then (rowVals ks row).headD undef else .agg (rowVals ks row).toArray

/-- A map: its entries are the table's rows, in whatever order; the table's keys rise. -/
def RepMap (kk : IntKind) (ks : List CK) (sc : Bool) (A : Tab) (w : World) (l : Loc) : Prop :=
  l.own = [l.blk] ∧ A.Pairwise (fun a b => hdK a < hdK b) ∧ (∀ row ∈ A, okRow (.i kk :: ks) row) ∧
    ∃ (es : Array MapEntry) (clock : Nat), w.heap[l.blk]? = some (.map es clock) ∧
      (es.toList.map fun e => (e.key, e.val)).Perm (A.map fun row => (Value.int kk (hdK row), mapVal ks sc row.tail)) ∧
      es.toList.Pairwise (fun a b => a.born ≠ b.born) ∧ ∀ e ∈ es.toList, e.born < clock

/-- A map that is gone through: the iterator's block, the map's. -/
def RepIter (kk : IntKind) (ks : List CK) (sc : Bool) (M : Tab) (w : World) (ib b : Nat) : Prop :=
  M.Pairwise (fun a b => hdK a < hdK b) ∧ (∀ row ∈ M, okRow (.i kk :: (ks ++ [.b])) row) ∧
    ∃ (es : Array MapEntry) (clock : Nat) (seen : Array Nat), w.heap[b]? = some (.map es clock) ∧ w.heap[ib]? = some (.mapIter (some b) clock seen clock) ∧
      (es.toList.map fun e => (e.key, e.val, !seen.contains e.born)).Perm (M.map fun row => (Value.int kk (hdK row), mapVal ks sc row.tail, decide (lastK row = 1))) ∧
      es.toList.Pairwise (fun a b => a.born ≠ b.born) ∧ ∀ e ∈ es.toList, e.born < clock

/-- The key of the entry at which an iterator stands, if that is known. -/
def CurOK (kk : IntKind) : Option Int → World → Nat → Nat → Prop
  | none, _, _, _ => True
  | some k, w, ib, b => ∃ (es : Array MapEntry) (clock : Nat) (seen : Array Nat) (e : MapEntry), w.heap[b]? = some (.map es clock) ∧ w.heap[ib]? = some (.mapIter (some b) clock seen clock) ∧
      e ∈ es.toList ∧ e.key = .int kk k ∧ seen.back? = some e.born

/-- Channels that are open, with room for cap each, and nobody who waits: the row of each is its number and the cells of what is in it. -/
def RepChan (ks : List CK) (cap : Nat) (w : World) (row : List Int) : Prop :=
  0 < hdK row ∧ ∃ (ms : List (List Int)) (s r : Nat), row = hdK row :: ms.flatten ∧ (∀ m ∈ ms, okRow ks m) ∧ ms.length ≤ cap ∧
    w.heap[(hdK row).toNat - 1]? = some (.chan cap (ms.map fun m => Value.agg (rowVals ks m).toArray).toArray false s r false)
def RepChans (ks : List CK) (cap : Nat) (M : Tab) (w : World) (l : Loc) : Prop :=
  0 < ks.length ∧ l.own = M.map (fun r => (hdK r).toNat - 1) ∧ (M.map hdK).Nodup ∧ ∀ row ∈ M, RepChan ks cap w row

/-- One that goes through a text: the text, and where it is. -/
def RepSit (A : Tab) (w : World) (l : Loc) : Prop :=
  l.own = [l.blk] ∧ l.base = 0 ∧ l.str = 0 ∧ ∃ c p : Int, A = [[c, p]] ∧ 0 ≤ p ∧ w.heap[l.blk]? = some (.stringIter ⟨(strB c).toArray⟩ p.toNat)

def Sig.repA (Φ : Sig) : AK → Tab → World → Loc → Prop
  | .vec ks ty, A, w, l => RepVec ks ty A w l
  | .map kk ks sc, A, w, l => RepMap kk ks sc A w l
  | .user n, A, w, l => Φ.rep n A w l
  | .chans ks cap, A, w, l => RepChans ks cap A w l
  | .sit, A, w, l => RepSit A w l

section
variable (Φ : Sig) (ρ : Env) (μ : List Loc)

def denPt (p : Pt) : Option Addr :=
  match μ[p.id]? with
  | none => none
  | some l => if 0 ≤ p.r.ev Φ ρ then some ⟨l.blk, l.base + (p.r.ev Φ ρ).toNat * l.str + p.j, none⟩ else none

def denPts : List Pt → Option (List Value)
  | [] => some []
  | p :: ps => match denPt Φ ρ μ p, denPts ps with
    | some a, some vs => some (.pointer (some a) :: vs)
    | _, _ => none

/-- A slice of a table: rows lo .. lo + len of it, room for c rows. -/
def vsVal (l : Loc) (lo len c : Nat) : Value :=
  if l.nl then .slice none 0 0 else .slice (some ⟨l.blk, if c = 0 then l.base else l.base + lo * l.str, none⟩) len c

def vcap (l : Loc) (lo : SI) : Option SI → Int
  | none => (l.cap : Int) - lo.ev Φ ρ
  | some e => e.ev Φ ρ

/-- A function with what it holds: numbers from bnd on: bound to receivers. -/
def bnd : Nat := 100000000
def fnVal (f : Nat) (vs : Array Value) : Value := if Nat.ble bnd f then .func (.func (f - bnd)) vs #[] else .func (.func f) #[] vs

def denC : CV → Option Value
  | .b x => some (.bool (x.ev Φ ρ))
  | .i k x => some (.int k (x.ev Φ ρ))
  | .s x => some (.string x)
  | .p none => some (.pointer none)
  | .p (some p) => (denPt Φ ρ μ p).map fun a => .pointer (some a)
  | .sl none len cap => if len.ev Φ ρ = 0 ∧ cap.ev Φ ρ = 0 then some (.slice none 0 0) else none
  | .sl (some p) len cap =>
    if 0 ≤ len.ev Φ ρ ∧ len.ev Φ ρ ≤ cap.ev Φ ρ then (denPt Φ ρ μ p).map fun a => .slice (some a) (len.ev Φ ρ).toNat (cap.ev Φ ρ).toNat else none
  | .vs id lo len cap => match μ[id]? with
    | none => none
    | some l =>
      if 0 ≤ lo.ev Φ ρ ∧ 0 ≤ len.ev Φ ρ ∧ len.ev Φ ρ ≤ vcap Φ ρ l lo cap ∧ lo.ev Φ ρ + vcap Φ ρ l lo cap ≤ l.cap ∧ (l.nl = true → l.cap = 0) then some (vsVal l (lo.ev Φ ρ).toNat (len.ev Φ ρ).toNat (vcap Φ ρ l lo cap).toNat) else none
  | .m none => some (.map none)
  | .m (some id) => (μ[id]?).map fun l => .map (some l.blk)
  | .cd k x => some (qVal k (x.ev Φ ρ))
  | .fn f caps => (denPts Φ ρ μ caps).map fun vs => fnVal f vs.toArray
  | .nilfn => some .nilFunc

def denL : List CV → Option (List Value)
  | [] => some []
  | c :: cs => match denC Φ ρ μ c, denL cs with
    | some v, some vs => some (v :: vs)
    | _, _ => none

def denT : List (CV ⊕ List CV) → Option (List Value)
  | [] => some []
  | .inl c :: cs => match denC Φ ρ μ c, denT cs with
    | some v, some vs => some (v :: vs)
    | _, _ => none
  | .inr c :: cs => match denL Φ ρ μ c, denT cs with
    | some v, some vs => some (.agg v.toArray :: vs)
    | _, _ => none

def den : AV → Option Value
  | .cv c => denC Φ ρ μ c
  | .agg cs => (denL Φ ρ μ cs).map fun vs => .agg vs.toArray
  | .tup vs => (denT Φ ρ μ vs).map fun vs => .tuple vs.toArray

/-- Slices in a slice: row i of the table is what lies in slice i. Where the outer one lies is another object's location (lm); all blocks are this one's own,
but those of the row that is a table of its own (h: where that lies, and which row). -/
def RepLists (k : List CK) (ety oty : TypeId) (A : Tab) (w : World) (lm : Loc) (own : List Nat) (h : Option (Loc × Int)) : Prop :=
  lm.str = 1 ∧ lm.nl = false ∧ lm.blk ∈ own ∧ A.length ≤ lm.cap ∧ lm.cap ≤ maxLen ∧ ∃ (cs : Array Value) (ls : List Loc),
    w.heap[lm.blk]? = some (.cells cs oty (0, 0)) ∧ lm.base + lm.cap ≤ cs.size ∧ ls.length = A.length ∧
    (∀ x, h = some x → 0 ≤ x.2 ∧ ls[x.2.toNat]? = some x.1) ∧
    (∀ (i : Nat) (row : List Int) (li : Loc), A[i]? = some row → ls[i]? = some li → cs[lm.base + i]? = some (vsVal li 0 (chunkN k.length row).length li.cap) ∧
      ((∀ x, h = some x → x.2.toNat ≠ i) → RepVec k ety (chunkN k.length row) w li ∧ ∀ b ∈ li.own, b ∈ own ∧ b ≠ lm.blk)) ∧
    ∀ (i j : Nat) (li lj : Loc) (b : Nat), ls[i]? = some li → ls[j]? = some lj → (∀ x, h = some x → x.2.toNat ≠ i ∧ x.2.toNat ≠ j) → b ∈ li.own → b ∈ lj.own → i = j

/-- What an object stands for. -/
def ObjOK (w : World) (l : Loc) : AObj → Prop
  | .cells cs ty => l.base = 0 ∧ l.str = 0 ∧ l.own = [l.blk] ∧ ∃ vs, denL Φ ρ μ cs = some vs ∧ w.heap[l.blk]? = some (.cells vs.toArray ty (0, 0))
  | .ext A ks => l.str = ks.length ∧ (A.ev Φ ρ ≠ [] → l.own = [l.blk]) ∧ (∀ row ∈ A.ev Φ ρ, okRow ks row) ∧
      ∀ (i : Nat) (v : Value), ((A.ev Φ ρ).flatMap (rowVals ks))[i]? = some v → w.cell? ⟨l.blk, l.base + i, none⟩ = some v
  | .abs k A => Φ.repA k (A.ev Φ ρ) w l
  | .iter mid kk ks sc M cur => l.base = 0 ∧ l.str = 0 ∧ ∃ lm, μ[mid]? = some lm ∧ lm.own = [lm.blk] ∧ l.own = [l.blk, lm.blk] ∧ l.blk ≠ lm.blk ∧ CurOK kk (cur.map (SI.ev Φ ρ)) w l.blk lm.blk ∧ RepIter kk ks sc (M.ev Φ ρ) w l.blk lm.blk
  | .lists mid k ety oty A op => ∃ lm, μ[mid]? = some lm ∧ match op with
    | none => RepLists k ety oty (A.ev Φ ρ) w lm l.own none
    | some (j, r) => ∃ lj, μ[j]? = some lj ∧ RepLists k ety oty (A.ev Φ ρ) w lm l.own (some (lj, r.ev Φ ρ))
  | .dead => True

def Mem.new (m : Mem) (o : AObj) : Nat × Mem := (m.o.length, { m with o := m.o ++ [o] })
def AV.cells : AV → List CV
  | .cv c => [c]
  | .agg cs => cs
  | .tup _ => []
def putCells : List CV → Nat → List CV → List CV
  | cs, _, [] => cs
  | cs, off, d :: ds => putCells (cs.set off d) (off + 1) ds

def get (t : Nat) : List (Nat × AV) → Option AV
  | [] => none
  | (u, v) :: r => if Nat.beq t u then some v else get t r

/-- The world, and how many objects there were, when all began. -/
structure Base where
  w : World
  k : Nat

/-- What the objects stand for; what was there at the beginning, and is not written, is as it was. -/
structure MRel (B : Base) (m : Mem) (w : World) : Prop where
  len : μ.length = m.o.length
  kle : B.k ≤ m.o.length
  apart : ∀ (i j : Nat) (oi oj : AObj) (li lj : Loc) (b : Nat), m.o[i]? = some oi → m.o[j]? = some oj → oi.excl = true → oj.alive = true → μ[i]? = some li → μ[j]? = some lj → b ∈ li.own → b ∈ lj.own → i = j
  obj : ∀ (i : Nat) (o : AObj) (l : Loc), m.o[i]? = some o → μ[i]? = some l → ObjOK Φ ρ μ w l o
  lt : ∀ (i : Nat) (o : AObj) (l : Loc), m.o[i]? = some o → o.alive = true → μ[i]? = some l → ∀ b ∈ l.own, b < w.heap.size
  fr : ∀ b, b < B.w.heap.size → (∀ (i : Nat) (l : Loc), i ∈ m.wr → i < B.k → μ[i]? = some l → b ∉ l.own) → w.heap[b]? = B.w.heap[b]?
  new : ∀ (i : Nat) (l : Loc) (b : Nat), B.k ≤ i → μ[i]? = some l → b ∈ l.own → B.w.heap.size ≤ b ∨ ∃ j lj, j ∈ m.wr ∧ j < B.k ∧ μ[j]? = some lj ∧ b ∈ lj.own
  wap : ∀ (i j : Nat) (o : AObj) (li lj : Loc) (b : Nat), i ∈ m.wr → i < B.k → j < B.k → j ∉ m.wr → m.o[j]? = some o → o.alive = true → μ[i]? = some li → μ[j]? = some lj → b ∈ li.own → b ∉ lj.own
  sz : B.w.heap.size ≤ w.heap.size
  os : w.os = B.w.os ∧ w.tape = B.w.tape ∧ w.output = B.w.output

/-- What a frame stands for. -/
structure TRel (n : Nat) (t : List (Nat × AV)) (a : Act) : Prop where
  sz : a.tmps.size = n
  tm : ∀ u v, get u t = some v → u < a.tmps.size ∧ den Φ ρ μ v = some (a.tmps.getD u undef)
  df : a.defers = []

end
end Go.SF
