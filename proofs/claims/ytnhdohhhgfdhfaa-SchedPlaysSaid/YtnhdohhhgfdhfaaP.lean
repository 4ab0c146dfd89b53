/- The numbers by which the machine of unknowns names what chapter 21's functions compute. -/
import Derived.Test.YtnhdohhhgfdhfaaPQ
import Derived.Test.YtnhdohhhgfdhfaaPT
import Derived.Test.YtnhdohhhgfdhfaaPS
import Derived.Test.YtnhdohhhgfdhfaaSFOpen
namespace Go.SF.C21
open Go.SF
set_option linter.unusedVariables false

def fI (f : Nat) (xs : List Arg) : Int := bif Nat.blt f 200 then C17.fI f xs else bif Nat.blt f 300 then C18.fI (f - 100) xs else sI f xs
def fL (f : Nat) (xs : List Arg) : Tab := bif Nat.blt f 200 then C17.fL f xs else bif Nat.blt f 300 then C18.fL (f - 100) xs else sL f xs
def fB (f : Nat) (xs : List Arg) : Bool := bif Nat.blt f 200 then C17.fB f xs else bif Nat.blt f 300 then C18.fB (f - 100) xs else sB f xs
def Φ : Sig := ⟨fI, fL, fB, fun _ _ _ _ => True, fun _ _ _ _ _ _ _ => trivial⟩
namespace Q
open Go.SF.C17
theorem aI100 (T : Tab) (s c b : Int) : Φ.appI 100 [.inr T, .inl s, .inl c, .inl b] = bestF s T c b := rfl
theorem aI101 (T : Tab) (id : Int) : Φ.appI 101 [.inr T, .inl id] = cpuF T id := rfl
theorem aI102 (T : Tab) (id : Int) : Φ.appI 102 [.inr T, .inl id] = atF T id := rfl
theorem aI103 (T : Tab) (c id i : Int) : Φ.appI 103 [.inr T, .inl c, .inl id, .inl i] = atG T c id i := rfl
theorem aI110 (T : Tab) (c id rm : Int) : Φ.appI 110 [.inr T, .inl c, .inl id, .inl rm] = pushE T c id rm := rfl
theorem aI111 (T : Tab) (c : Int) : Φ.appI 111 [.inr T, .inl c] = popF T c := rfl
theorem aI112 (T : Tab) (c : Int) : Φ.appI 112 [.inr T, .inl c] = popX T c := rfl
theorem aL110 (T : Tab) (c id rm : Int) : Φ.appL 110 [.inr T, .inl c, .inl id, .inl rm] = pushT T c id rm := rfl
theorem aL111 (T : Tab) (c : Int) : Φ.appL 111 [.inr T, .inl c] = popT T c := rfl
theorem aL112 (T : Tab) (id : Int) : Φ.appL 112 [.inr T, .inl id] = dropT T id := rfl
theorem aL115 (T : Tab) (c id : Int) : Φ.appL 115 [.inr T, .inl c, .inl id] = layT T c id := rfl
theorem aL116 (T : Tab) (c i : Int) : Φ.appL 116 [.inr T, .inl c, .inl i] = cutT T c i := rfl
theorem aB130 (T M : Tab) (rm : Int) : Φ.fB 130 [.inr T, .inr M, .inl rm] = invB T M rm := rfl
theorem aB131 (T : Tab) (id : Int) : Φ.fB 131 [.inr T, .inl id] = hasB T id := rfl
theorem aB132 (T : Tab) : Φ.fB 132 [.inr T] = anyB T := rfl
end Q
namespace T
open Go.SF.C18
theorem aI210 (a b c d : Int) : Φ.appI 210 [.inl a, .inl b, .inl c, .inl d] = armI a b c d := rfl
theorem aI213 (C : Tab) (i t : Int) : Φ.appI 213 [.inr C, .inl i, .inl t] = chI C i t := rfl
theorem aI214 (C : Tab) (i q w : Int) : Φ.appI 214 [.inr C, .inl i, .inl q, .inl w] = rfI C i q w := rfl
theorem aI220 (L : Tab) (id a i : Int) : Φ.appI 220 [.inr L, .inl id, .inl a, .inl i] = rankF L id a i := rfl
theorem aI221 (a e n : Int) : Φ.appI 221 [.inl a, .inl e, .inl n] = timesI a e n := by rw [show ∀ xs, Φ.appI 221 xs = C18.fI 121 xs from fun _ => rfl]; simp [C18.fI]
theorem aI222 (a e n : Int) : Φ.appI 222 [.inl a, .inl e, .inl n] = nextI a e n := by rw [show ∀ xs, Φ.appI 222 xs = C18.fI 122 xs from fun _ => rfl]; simp [C18.fI]
theorem aL210 (T : Tab) (a b c d : Int) : Φ.appL 210 [.inr T, .inl a, .inl b, .inl c, .inl d] = armT T a b c d := rfl
theorem aL220 (L : Tab) (id a t : Int) : Φ.appL 220 [.inr L, .inl id, .inl a, .inl t] = insF id a t L := rfl
theorem aL222 (L M : Tab) (n : Int) : Φ.appL 222 [.inr L, .inr M, .inl n] = tickO n L M := rfl
theorem aL223 (M : Tab) (n : Int) : Φ.appL 223 [.inr M, .inl n] = tickM n M := rfl
theorem aL224 (T : Tab) (n : Int) : Φ.appL 224 [.inr T, .inl n] = tickL T n := rfl
theorem aL225 (T : Tab) (n : Int) : Φ.appL 225 [.inr T, .inl n] = tickT T n := rfl
theorem aB230 (a b c d : Int) : Φ.fB 230 [.inl a, .inl b, .inl c, .inl d] = aheadB a b c d := rfl
theorem aI250 (D : Tab) (id i : Int) : Φ.appI 250 [.inr D, .inl id, .inl i] = crG D id i := rfl
theorem aI251 (D : Tab) (i t : Int) : Φ.appI 251 [.inr D, .inl i, .inl t] = max (-1073741824) (W (crG D i 0 - max 0 (min t 1073741824))) := by rw [show ∀ xs, Φ.appI 251 xs = C18.fI 151 xs from fun _ => rfl]; simp [C18.fI]
theorem aI252 (D : Tab) (i q w : Int) : Φ.appI 252 [.inr D, .inl i, .inl q, .inl w] = min (moreI q w) (W (crG D i 0 + moreI q w)) := by rw [show ∀ xs, Φ.appI 252 xs = C18.fI 152 xs from fun _ => rfl]; simp [C18.fI]
theorem aL250 (L : Tab) (id : Int) : Φ.appL 250 [.inr L, .inl id] = disL L id := rfl
theorem aL251 (L : Tab) (id a e : Int) : Φ.appL 251 [.inr L, .inl id, .inl a, .inl e] = putL L id a e := rfl
theorem aL252 (L : Tab) (id a e n : Int) : Φ.appL 252 [.inr L, .inl id, .inl a, .inl e, .inl n] = armL L id a e n := rfl
theorem aL253 (L : Tab) (n : Int) : Φ.appL 253 [.inr L, .inl n] = tckL L n := rfl
theorem aL254 (L : Tab) (n : Int) : Φ.appL 254 [.inr L, .inl n] = outL n (dueL L n) := rfl
theorem aL255 (L : Tab) (n : Int) : Φ.appL 255 [.inr L, .inl n] = agaL n (dueL L n) := rfl
theorem aL256 (L : Tab) (n : Int) : Φ.appL 256 [.inr L, .inl n] = restL L n := rfl
theorem aL257 (L G : Tab) (i : Int) : Φ.appL 257 [.inr L, .inr G, .inl i] = C18.putAll L (G.drop i.toNat) := rfl
theorem aL258 (D : Tab) (id n i : Int) : Φ.appL 258 [.inr D, .inl id, .inl n, .inl i] = setG D id n i := rfl
theorem aB250 (T L : Tab) : Φ.fB 250 [.inr T, .inr L] = isB T L := rfl
theorem aB251 (C D : Tab) : Φ.fB 251 [.inr C, .inr D] = crB C D := rfl
theorem aB252 (T : Tab) (n : Int) : Φ.fB 252 [.inr T, .inl n] = timB T n := rfl
theorem aB253 (D : Tab) (id i : Int) : Φ.fB 253 [.inr D, .inl id, .inl i] = hasC (D.drop i.toNat) id := rfl
end T
theorem aL311 (O : Tab) (x : Int) : Φ.appL 311 [.inr O, .inl x] = O ++ [[0, -1, 0, 0, 0, 0, 0, 0, 0, x]] := rfl
theorem aI340 (O : Tab) (i ev c : Int) : Φ.appI 340 [.inr O, .inl i, .inl ev, .inl c] = if nxB O i ev c then 0 else 6 := rfl
theorem aL330 (O : Tab) (i ev c : Int) : Φ.appL 330 [.inr O, .inl i, .inl ev, .inl c] = nxT O i ev c := rfl
theorem aL331 (O : Tab) (i ev c : Int) : Φ.appL 331 [.inr O, .inl i, .inl ev, .inl c] = evO O i ev c := rfl
theorem aL332 (O A : Tab) (i : Int) : Φ.appL 332 [.inr O, .inr A, .inl i] = lvA O A i := rfl
theorem aL333 (O R : Tab) (i : Int) : Φ.appL 333 [.inr O, .inr R, .inl i] = lvR O R i := rfl
theorem aL334 (O A : Tab) (h i : Int) : Φ.appL 334 [.inr O, .inr A, .inl h, .inl i] = enA O A h i := rfl
theorem aL335 (O R : Tab) (i : Int) : Φ.appL 335 [.inr O, .inr R, .inl i] = enR O R i := rfl
theorem aL336 (O B : Tab) (i : Int) : Φ.appL 336 [.inr O, .inr B, .inl i] = enB O B i := rfl
theorem aL337 (O A : Tab) (i ev c h : Int) : Φ.appL 337 [.inr O, .inr A, .inl i, .inl ev, .inl c, .inl h] = evA O A i ev c h := rfl
theorem aL338 (O R : Tab) (i ev c : Int) : Φ.appL 338 [.inr O, .inr R, .inl i, .inl ev, .inl c] = evR O R i ev c := rfl
theorem aL339 (O B : Tab) (i ev c : Int) : Φ.appL 339 [.inr O, .inr B, .inl i, .inl ev, .inl c] = evB O B i ev c := rfl
theorem aB330 (O : Tab) (i ev c : Int) : Φ.fB 330 [.inr O, .inl i, .inl ev, .inl c] = nxB O i ev c := rfl
theorem aB331 (O : Tab) (i : Int) : Φ.fB 331 [.inr O, .inl i] = right8 O i := rfl
theorem aL350 (O A R C L : Tab) (c t : Int) : Φ.appL 350 [.inr O, .inr A, .inr R, .inr C, .inr L, .inl c, .inl t] = (tkL O A R C L c t).1 := rfl
theorem aL351 (O A R C L : Tab) (c t : Int) : Φ.appL 351 [.inr O, .inr A, .inr R, .inr C, .inr L, .inl c, .inl t] = (tkL O A R C L c t).2.1 := rfl
theorem aL352 (O A R C L : Tab) (c t : Int) : Φ.appL 352 [.inr O, .inr A, .inr R, .inr C, .inr L, .inl c, .inl t] = (tkL O A R C L c t).2.2.1 := rfl
theorem aL353 (O A R C L : Tab) (c t : Int) : Φ.appL 353 [.inr O, .inr A, .inr R, .inr C, .inr L, .inl c, .inl t] = (tkL O A R C L c t).2.2.2.1 := rfl
theorem aL354 (O A R C L : Tab) (c t : Int) : Φ.appL 354 [.inr O, .inr A, .inr R, .inr C, .inr L, .inl c, .inl t] = (tkL O A R C L c t).2.2.2.2 := rfl
theorem aL355 (O A R F W : Tab) (c : Int) : Φ.appL 355 [.inr O, .inr A, .inr R, .inr F, .inr W, .inl c] = (wkL O A R F W c).1 := rfl
theorem aL356 (O A R F W : Tab) (c : Int) : Φ.appL 356 [.inr O, .inr A, .inr R, .inr F, .inr W, .inl c] = (wkL O A R F W c).2.1 := rfl
theorem aL357 (O A R F W : Tab) (c : Int) : Φ.appL 357 [.inr O, .inr A, .inr R, .inr F, .inr W, .inl c] = (wkL O A R F W c).2.2.1 := rfl
theorem aL358 (O A R F W : Tab) (c : Int) : Φ.appL 358 [.inr O, .inr A, .inr R, .inr F, .inr W, .inl c] = (wkL O A R F W c).2.2.2 := rfl
theorem aL341 (C : Tab) (i q : Int) : Φ.appL 341 [.inr C, .inl i, .inl q] = dsC C i q := rfl
theorem aB332 (O A R : Tab) : Φ.fB 332 [.inr O, .inr A, .inr R] = invS O A R := rfl
theorem aI341 (T : Tab) (id c : Int) : Φ.appI 341 [.inr T, .inl id, .inl c] = cpuG T id c := rfl
theorem aL342 (D : Tab) (i q : Int) : Φ.appL 342 [.inr D, .inl i, .inl q] = dsD D i q := rfl
theorem aL343 (O L : Tab) (i ev c : Int) : Φ.appL 343 [.inr O, .inr L, .inl i, .inl ev, .inl c] = evL O L i ev c := rfl
theorem aL360 (O A R D L : Tab) (c t : Int) : Φ.appL 360 [.inr O, .inr A, .inr R, .inr D, .inr L, .inl c, .inl t] = (tkD O A R D L c t).1 := rfl
theorem aL361 (O A R D L : Tab) (c t : Int) : Φ.appL 361 [.inr O, .inr A, .inr R, .inr D, .inr L, .inl c, .inl t] = (tkD O A R D L c t).2.1 := rfl
theorem aL362 (O A R D L : Tab) (c t : Int) : Φ.appL 362 [.inr O, .inr A, .inr R, .inr D, .inr L, .inl c, .inl t] = (tkD O A R D L c t).2.2.1 := rfl
theorem aL363 (O A R D L : Tab) (c t : Int) : Φ.appL 363 [.inr O, .inr A, .inr R, .inr D, .inr L, .inl c, .inl t] = (tkD O A R D L c t).2.2.2.1 := rfl
theorem aL364 (O A R D L : Tab) (c t : Int) : Φ.appL 364 [.inr O, .inr A, .inr R, .inr D, .inr L, .inl c, .inl t] = (tkD O A R D L c t).2.2.2.2 := rfl
theorem aB340 (T : Tab) : Φ.fB 340 [.inr T] = low8 T := rfl
theorem aB341 (T : Tab) (id c : Int) : Φ.fB 341 [.inr T, .inl id, .inl c] = hasG T id c := rfl
theorem aB199 : Φ.fB 199 [] = false := rfl
theorem drop_never {P : Go.Program} {f : Nat} {vs : List AV} {o : List AObj} {pc : List SB} {x y : TOut} (hy : y.pc = [.app 199 .nil]) (h : TmCall Φ P f vs o pc [x, y]) : TmCall Φ P f vs o pc [x] := by
  intro ρ μ B w xs hd hM hp R hR
  refine h ρ μ B w xs hd hM hp R fun eo heo => ?_
  simp only [List.map_cons, List.map_nil, List.mem_cons, List.not_mem_nil, or_false] at heo
  rcases heo with rfl | rfl
  · exact hR _ (by simp)
  · have nev : ∀ ρ' : Env, ¬ holds Φ ρ' y.pc := fun ρ' hh => by
      rw [hy] at hh
      have := hh (.app 199 .nil) (by simp)
      simp only [evB_app, evA_nil] at this
      rw [aB199] at this
      cases this
    cases hg : get 0 y.t with
    | none => exact fun ρ' _ => nev ρ'
    | some v => exact fun ρ' _ hh => absurd hh (nev ρ')
end Go.SF.C21
