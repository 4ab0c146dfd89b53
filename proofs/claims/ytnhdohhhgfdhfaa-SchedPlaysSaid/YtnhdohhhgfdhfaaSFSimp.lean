/- The functions that every law has, at arguments that are written out. -/
import Derived.Test.YtnhdohhhgfdhfaaSFRule
namespace Go.SF
section
variable (Φ : Sig)
theorem std_min (a b : Int) : Φ.appI 0 [.inl a, .inl b] = min a b := by simp [Sig.appI, stdI]
theorem std_max (a b : Int) : Φ.appI 1 [.inl a, .inl b] = max a b := by simp [Sig.appI, stdI]
theorem std_cat (a b : Tab) : Φ.appL 0 [.inr a, .inr b] = a ++ b := by simp [Sig.appL, stdL]
theorem std_take (a : Tab) (n : Int) : Φ.appL 1 [.inr a, .inl n] = a.take n.toNat := by simp [Sig.appL, stdL]
theorem std_drop (a : Tab) (n : Int) : Φ.appL 2 [.inr a, .inl n] = a.drop n.toNat := by simp [Sig.appL, stdL]
theorem std_row (xs : List Arg) : Φ.appL 3 xs = [ints xs] := by simp [Sig.appL, stdL]
theorem std_set (a : Tab) (r j x : Int) : Φ.appL 4 [.inr a, .inl r, .inl j, .inl x] = a.modify r.toNat fun row => row.set j.toNat x := by simp [Sig.appL, stdL]
theorem std_rep (n : Int) (xs : List Arg) : Φ.appL 5 (.inl n :: xs) = List.replicate n.toNat (ints xs) := by simp [Sig.appL, stdL]
theorem std_find (A : Tab) (k : Int) : Φ.appL 6 [.inr A, .inl k] = findK A k := by simp [Sig.appL, stdL]
theorem std_put (A : Tab) (xs : List Arg) : Φ.appL 7 (.inr A :: xs) = putK A (ints xs) := by simp [Sig.appL, stdL]
theorem std_del (A : Tab) (k : Int) : Φ.appL 8 [.inr A, .inl k] = delK A k := by simp [Sig.appL, stdL]
theorem std_flag (A : Tab) : Φ.appL 9 [.inr A] = flagT A := by simp [Sig.appL, stdL]
theorem std_unflag (A : Tab) : Φ.appL 10 [.inr A] = unflagT A := by simp [Sig.appL, stdL]
theorem std_clr (A : Tab) (k : Int) : Φ.appL 11 [.inr A, .inl k] = clrT A k := by simp [Sig.appL, stdL]
theorem std_left (A : Tab) : Φ.appL 12 [.inr A] = remT A := by simp [Sig.appL, stdL]
theorem std_copy (A : Tab) (lo : Int) (S : Tab) : Φ.appL 13 [.inr A, .inl lo, .inr S] = copyT A lo.toNat S := by simp [Sig.appL, stdL]
theorem std_rowT (A : Tab) (r : Int) : Φ.appL 14 [.inr A, .inl r] = rowT A r := by simp [Sig.appL, stdL]
theorem std_setT (A : Tab) (r : Int) (S : Tab) : Φ.appL 15 [.inr A, .inl r, .inr S] = setT A r S := by simp [Sig.appL, stdL]
theorem ints_nil : ints [] = [] := rfl
theorem ints_cons (n : Int) (r : List Arg) : ints (.inl n :: r) = n :: ints r := rfl
theorem negSucc_lit (n : Nat) : Int.negSucc (no_index (OfNat.ofNat n)) = -((OfNat.ofNat n : Int) + 1) := Int.negSucc_eq n
end
end Go.SF
