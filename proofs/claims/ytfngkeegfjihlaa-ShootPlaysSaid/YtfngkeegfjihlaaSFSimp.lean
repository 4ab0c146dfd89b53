/- The functions that every law has, at arguments that are written out. -/
import Derived.Test.YtfngkeegfjihlaaSFRule
namespace Go.SF
section
variable (Φ : Sig)
theorem std_min (a b : Int) : Φ.appI 0 [.inl a, .inl b] = min a b := by simp [Sig.appI, stdI]
theorem std_max (a b : Int) : Φ.appI 1 [.inl a, .inl b] = max a b := by simp [Sig.appI, stdI]
theorem std_cat (a b : Tab) : Φ.appL 0 [.inr a, .inr b] = a ++ b := by simp [Sig.appL, stdL]
theorem std_take (a : Tab) (n : Int) : Φ.appL 1 [.inr a, .inl n] = a.take n.toNat := by simp [Sig.appL, stdL]
theorem std_drop (a : Tab) (n : Int) : Φ.appL 2 [.inr a, .inl n] = a.drop n.toNat := by simp [Sig.appL, stdL]
theorem std_row (xs : List Arg) : Φ.appL 3 xs = [ints xs] := by simp [Sig.appL, stdL]
theorem std_set (a : Tab) (r j x : Int) : Φ.appL 4 [.inr a, .inl r, .inl j, .inl x] = a.modify r.toNat fun row => row.set j.toNat x := by simp [Sig.appL, stdL]
theorem std_rep (n : Int) (xs : List Arg) : Φ.appL 5 (.inl n :: xs) = List.replicate n.toNat (ints xs) := by simp [Sig.appL, stdL]
theorem std_find (A : Tab) (k : Int) : Φ.appL 6 [.inr A, .inl k] = findK A k := by simp [Sig.appL, stdL]
theorem std_put (A : Tab) (xs : List Arg) : Φ.appL 7 (.inr A :: xs) = putK A (ints xs) := by simp [Sig.appL, stdL]
theorem std_del (A : Tab) (k : Int) : Φ.appL 8 [.inr A, .inl k] = delK A k := by simp [Sig.appL, stdL]
theorem std_flag (A : Tab) : Φ.appL 9 [.inr A] = flagT A := by simp [Sig.appL, stdL]
theorem std_unflag (A : Tab) : Φ.appL 10 [.inr A] = unflagT A := by simp [Sig.appL, stdL]
theorem std_clr (A : Tab) (k : Int) : Φ.appL 11 [.inr A, .inl k] = clrT A k := by simp [Sig.appL, stdL]
theorem std_left (A : Tab) : Φ.appL 12 [.inr A] = remT A := by simp [Sig.appL, stdL]
theorem std_copy (A : Tab) (lo : Int) (S : Tab) : Φ.appL 13 [.inr A, .inl lo, .inr S] = copyT A lo.toNat S := by simp [Sig.appL, stdL]
theorem std_rowT (A : Tab) (r : Int) : Φ.appL 14 [.inr A, .inl r] = rowT A r := by simp [Sig.appL, stdL]
theorem std_setT (A : Tab) (r : Int) (S : Tab) : Φ.appL 15 [.inr A, .inl r, .inr S] = setT A r S := by simp [Sig.appL, stdL]
theorem std_rowN (n : Int) (A : Tab) (r : Int) : Φ.appL 18 [.inl n, .inr A, .inl r] = rowN n.toNat A r := by simp [Sig.appL, stdL]
theorem std_setN (n : Int) (A : Tab) (r : Int) (S : Tab) : Φ.appL 19 [.inl n, .inr A, .inl r, .inr S] = setN n.toNat A r S := by simp [Sig.appL, stdL]
theorem std_cnt (M : Tab) (x k : Int) : Φ.appI 2 [.inr M, .inl x, .inl k] = cntT M x k := by simp [Sig.appI, stdI]
theorem std_catS (a b : Int) : Φ.appI 3 [.inl a, .inl b] = catS a b := by simp [Sig.appI, stdI]
theorem std_lenS (a : Int) : Φ.appI 4 [.inl a] = lenS a := by simp [Sig.appI, stdI]
theorem std_atS (a i : Int) : Φ.appI 5 [.inl a, .inl i] = atS a i := by simp [Sig.appI, stdI]
theorem std_subS (a lo hi : Int) : Φ.appI 6 [.inl a, .inl lo, .inl hi] = subS a lo hi := by simp [Sig.appI, stdI]
theorem std_ofB (xs : List Arg) : Φ.appI 7 xs = ofB (ints xs) := by simp [Sig.appI, stdI]
theorem std_snd (M : Tab) (x : Int) (xs : List Arg) : Φ.appL 16 (.inr M :: .inl x :: xs) = sndT M x (ints xs) := by simp [Sig.appL, stdL]
theorem std_rcv (M : Tab) (x k : Int) : Φ.appL 17 [.inr M, .inl x, .inl k] = rcvT M x k := by simp [Sig.appL, stdL]
theorem ints_nil : ints [] = [] := rfl
theorem ints_cons (n : Int) (r : List Arg) : ints (.inl n :: r) = n :: ints r := rfl
theorem ofNat_lit (n : Nat) : Int.ofNat (no_index (OfNat.ofNat n)) = (OfNat.ofNat n : Int) := rfl
theorem negSucc_lit (n : Nat) : Int.negSucc (no_index (OfNat.ofNat n)) = -((OfNat.ofNat n : Int) + 1) := Int.negSucc_eq n
end
/-- An outcome that cannot be. -/
theorem never_drop {Φ : Sig} (h199 : Φ.fB 199 [] = false) {P : Program} {f : Nat} {vs : List AV} {o : List AObj} {pc : List SB} {x y : TOut} (hy : y.pc = [.app 199 .nil]) (h : TmCall Φ P f vs o pc [x, y]) : TmCall Φ P f vs o pc [x] := by
  intro ρ μ B w xs hd hM hp R hR
  refine h ρ μ B w xs hd hM hp R fun eo heo => ?_
  simp only [List.map_cons, List.map_nil, List.mem_cons, List.not_mem_nil, or_false] at heo
  rcases heo with rfl | rfl
  · exact hR _ (by simp)
  · have nev : ∀ ρ' : Env, ¬ holds Φ ρ' y.pc := fun ρ' hh => by
      rw [hy] at hh
      have := hh (.app 199 .nil) (by simp)
      simp only [evB_app, evA_nil] at this
      rw [h199] at this
      cases this
    cases hg : get 0 y.t with
    | none => exact fun ρ' _ => nev ρ'
    | some v => exact fun ρ' _ hh => absurd hh (nev ρ')
end Go.SF
