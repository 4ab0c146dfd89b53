/- The simplified expressions mean what the plain ones mean; what is known on a way is so. -/
import Derived.Test.YtondflokjmdaiaaSEEval
namespace Go.SE
set_option linter.unusedVariables false
set_option linter.unusedSimpArgs false

section
variable {D : Type} (Φ : Sig D) (ρ : Env D)

@[simp] theorem ev_c (n : Int) : (SI.c n).ev Φ ρ = n := by simp [SI.ev]
@[simp] theorem ev_v (n : Nat) : (SI.v n).ev Φ ρ = ρ.i n := by simp [SI.ev]
@[simp] theorem ev_add (a b : SI) : (SI.add a b).ev Φ ρ = a.ev Φ ρ + b.ev Φ ρ := by simp [SI.ev]
@[simp] theorem ev_sub (a b : SI) : (SI.sub a b).ev Φ ρ = a.ev Φ ρ - b.ev Φ ρ := by simp [SI.ev]
@[simp] theorem ev_mul (a b : SI) : (SI.mul a b).ev Φ ρ = a.ev Φ ρ * b.ev Φ ρ := by simp [SI.ev]
@[simp] theorem ev_quo (a b : SI) : (SI.quo a b).ev Φ ρ = (a.ev Φ ρ).tdiv (b.ev Φ ρ) := by simp [SI.ev]
@[simp] theorem ev_rem (a b : SI) : (SI.rem a b).ev Φ ρ = (a.ev Φ ρ).tmod (b.ev Φ ρ) := by simp [SI.ev]
@[simp] theorem ev_wrap (k : IntKind) (a : SI) : (SI.wrap k a).ev Φ ρ = k.wrap (a.ev Φ ρ) := by simp [SI.ev]
@[simp] theorem ev_bits (op : BinOp) (k : IntKind) (a b : SI) : (SI.bits op k a b).ev Φ ρ = Go.bits op k (a.ev Φ ρ) (b.ev Φ ρ) := by simp [SI.ev]
theorem ev_sel (A : SL) (r : SI) (j : Nat) : (SI.sel A r j).ev Φ ρ = ((Φ.rows (A.ev Φ ρ)).getD (r.ev Φ ρ).toNat []).getD j 0 := by simp [SI.ev]
theorem ev_len (A : SL) : (SI.len A).ev Φ ρ = ((Φ.rows (A.ev Φ ρ)).length : Int) := by simp [SI.ev]
@[simp] theorem evB_c (b : Bool) : (SB.c b).ev Φ ρ = b := rfl
@[simp] theorem evB_v (n : Nat) : (SB.v n).ev Φ ρ = ρ.b n := rfl
@[simp] theorem evB_lt (a b : SI) : (SB.lt a b).ev Φ ρ = decide (a.ev Φ ρ < b.ev Φ ρ) := rfl
@[simp] theorem evB_le (a b : SI) : (SB.le a b).ev Φ ρ = decide (a.ev Φ ρ ≤ b.ev Φ ρ) := rfl
@[simp] theorem evB_eq (a b : SI) : (SB.eq a b).ev Φ ρ = decide (a.ev Φ ρ = b.ev Φ ρ) := rfl
@[simp] theorem evB_not (x : SB) : (SB.not x).ev Φ ρ = !x.ev Φ ρ := rfl
@[simp] theorem evB_and (x y : SB) : (SB.and x y).ev Φ ρ = (x.ev Φ ρ && y.ev Φ ρ) := rfl
@[simp] theorem evB_or (x y : SB) : (SB.or x y).ev Φ ρ = (x.ev Φ ρ || y.ev Φ ρ) := rfl

@[simp] theorem ev_mkAdd (a b : SI) : (mkAdd a b).ev Φ ρ = a.ev Φ ρ + b.ev Φ ρ := by
  unfold mkAdd
  split
  · simp
  · split <;> simp_all
  · simp
@[simp] theorem ev_mkSub (a b : SI) : (mkSub a b).ev Φ ρ = a.ev Φ ρ - b.ev Φ ρ := by
  unfold mkSub
  split
  · simp
  · split <;> simp_all
  · simp
@[simp] theorem ev_mkMul (a b : SI) : (mkMul a b).ev Φ ρ = a.ev Φ ρ * b.ev Φ ρ := by
  unfold mkMul; split <;> simp
@[simp] theorem ev_mkQuo (a b : SI) : (mkQuo a b).ev Φ ρ = (a.ev Φ ρ).tdiv (b.ev Φ ρ) := by
  unfold mkQuo; split <;> simp
@[simp] theorem ev_mkRem (a b : SI) : (mkRem a b).ev Φ ρ = (a.ev Φ ρ).tmod (b.ev Φ ρ) := by
  unfold mkRem; split <;> simp
@[simp] theorem ev_mkWrap (k : IntKind) (a : SI) : (mkWrap k a).ev Φ ρ = k.wrap (a.ev Φ ρ) := by
  unfold mkWrap; split <;> simp
@[simp] theorem evB_mkLt (a b : SI) : (mkLt a b).ev Φ ρ = decide (a.ev Φ ρ < b.ev Φ ρ) := by
  unfold mkLt; split <;> simp
@[simp] theorem evB_mkLe (a b : SI) : (mkLe a b).ev Φ ρ = decide (a.ev Φ ρ ≤ b.ev Φ ρ) := by
  unfold mkLe; split <;> simp
@[simp] theorem evB_mkEq (a b : SI) : (mkEq a b).ev Φ ρ = decide (a.ev Φ ρ = b.ev Φ ρ) := by
  unfold mkEq
  split
  · simp
  · simp [eq_comm]
  · split
    · rename_i h; rw [SI.same_eq _ _ h]; simp
    · simp
@[simp] theorem evB_mkNot (x : SB) : (mkNot x).ev Φ ρ = !x.ev Φ ρ := by
  unfold mkNot; split <;> simp
@[simp] theorem evB_mkAnd (x y : SB) : (mkAnd x y).ev Φ ρ = (x.ev Φ ρ && y.ev Φ ρ) := by
  unfold mkAnd; split <;> simp
@[simp] theorem evB_mkOr (x y : SB) : (mkOr x y).ev Φ ρ = (x.ev Φ ρ || y.ev Φ ρ) := by
  unfold mkOr; split <;> simp
theorem SB.same_ev : ∀ (x y : SB), SB.same x y = true → x.ev Φ ρ = y.ev Φ ρ := by
  intro x
  induction x with
  | c b => intro y h; cases y <;> simp_all [SB.same]
  | v i => intro y h; cases y <;> simp_all [SB.same]
  | lt a b => intro y h; cases y <;> simp [SB.same] at h; rw [SI.same_eq _ _ h.1, SI.same_eq _ _ h.2]
  | le a b => intro y h; cases y <;> simp [SB.same] at h; rw [SI.same_eq _ _ h.1, SI.same_eq _ _ h.2]
  | eq a b => intro y h; cases y <;> simp [SB.same] at h; rw [SI.same_eq _ _ h.1, SI.same_eq _ _ h.2]
  | not x ih => intro y h; cases y <;> simp [SB.same] at h; simp [ih _ h]
  | and x z ih1 ih2 => intro y h; cases y <;> simp [SB.same] at h; simp [ih1 _ h.1, ih2 _ h.2]
  | or x z ih1 ih2 => intro y h; cases y <;> simp [SB.same] at h; simp [ih1 _ h.1, ih2 _ h.2]
  | app f xs => intro y h; cases y <;> simp [SB.same] at h; rw [h.1, SA.same_eq _ _ h.2]

@[simp] theorem evB_mkIff (x y : SB) : (mkIff x y).ev Φ ρ = (x.ev Φ ρ == y.ev Φ ρ) := by
  unfold mkIff
  split
  · simp
  · simp
  · simp
  · simp
  · split
    · rename_i h; rw [SB.same_ev Φ ρ _ _ h]; simp
    · simp; cases x.ev Φ ρ <;> cases y.ev Φ ρ <;> rfl

/-- All facts of a way are so. -/
def holds (pc : List SB) : Prop := ∀ c ∈ pc, c.ev Φ ρ = true

theorem holds_nil : holds Φ ρ [] := by intro c h; cases h
theorem holds_cons {x : SB} {pc : List SB} (hx : x.ev Φ ρ = true) (h : holds Φ ρ pc) : holds Φ ρ (x :: pc) := by
  intro c hc
  rcases List.mem_cons.1 hc with rfl | hc
  · exact hx
  · exact h c hc

def BdOK (e : SI) (b : Bd) : Prop := (∀ n, b.lo = some n → n ≤ e.ev Φ ρ) ∧ (∀ n, b.hi = some n → e.ev Φ ρ ≤ n)

theorem meetLo_ok {e : SI} {b : Bd} {n : Int} (h : BdOK Φ ρ e b) (hn : n ≤ e.ev Φ ρ) : BdOK Φ ρ e (b.meetLo n) := by
  refine ⟨fun m hm => ?_, h.2⟩
  unfold Bd.meetLo at hm
  cases hb : b.lo with
  | none => rw [hb] at hm; simp at hm; omega
  | some l => rw [hb] at hm; simp at hm; have := h.1 l hb; split at hm <;> omega
theorem meetHi_ok {e : SI} {b : Bd} {n : Int} (h : BdOK Φ ρ e b) (hn : e.ev Φ ρ ≤ n) : BdOK Φ ρ e (b.meetHi n) := by
  refine ⟨h.1, fun m hm => ?_⟩
  unfold Bd.meetHi at hm
  cases hb : b.hi with
  | none => rw [hb] at hm; simp at hm; omega
  | some l => rw [hb] at hm; simp at hm; have := h.2 l hb; split at hm <;> omega

theorem factBd_ok {e : SI} {b : Bd} {f : SB} (h : BdOK Φ ρ e b) (hf : f.ev Φ ρ = true) : BdOK Φ ρ e (factBd e b f) := by
  unfold factBd
  split
  all_goals try exact h
  all_goals
    split
    case isFalse => exact h
    case isTrue hs =>
      have := SI.same_eq _ _ hs
      subst this
      simp at hf
      first
        | exact meetHi_ok Φ ρ h (by omega)
        | exact meetLo_ok Φ ρ h (by omega)
        | exact meetHi_ok Φ ρ (meetLo_ok Φ ρ h (by omega)) (by omega)

theorem outBd_ok {e : SI} {b : Bd} {f : SB} (h : BdOK Φ ρ e b) (hf : f.ev Φ ρ = true) : BdOK Φ ρ e (outBd e b f) := by
  unfold outBd
  split
  · split
    case isFalse => exact h
    case isTrue hs =>
      have := SI.same_eq _ _ hs
      subst this
      simp at hf
      split
      · rename_i hl; have := h.1 _ hl; exact meetLo_ok Φ ρ h (by omega)
      · split
        · rename_i hl; have := h.2 _ hl; exact meetHi_ok Φ ρ h (by omega)
        · exact h
  · exact h

theorem foldl_ok {e : SI} (g : Bd → SB → Bd) (hg : ∀ b f, BdOK Φ ρ e b → f.ev Φ ρ = true → BdOK Φ ρ e (g b f)) :
    ∀ (pc : List SB) (b : Bd), holds Φ ρ pc → BdOK Φ ρ e b → BdOK Φ ρ e (pc.foldl g b)
  | [], b, _, h => h
  | f :: pc, b, hp, h => foldl_ok g hg pc _ (fun c hc => hp c (List.mem_cons_of_mem _ hc)) (hg b f h (hp f (List.mem_cons_self ..)))

theorem bdOf_ok {e : SI} {pc : List SB} (hp : holds Φ ρ pc) : BdOK Φ ρ e (bdOf pc e) := by
  unfold bdOf
  refine foldl_ok Φ ρ _ (fun b f hb hf => outBd_ok Φ ρ hb hf) pc _ hp ?_
  refine foldl_ok Φ ρ _ (fun b f hb hf => outBd_ok Φ ρ hb hf) pc _ hp ?_
  refine foldl_ok Φ ρ _ (fun b f hb hf => factBd_ok Φ ρ hb hf) pc _ hp ?_
  exact ⟨fun n h => by simp at h, fun n h => by simp at h⟩

theorem any_hi {b : Bd} {p : Int → Bool} (h : b.hi.any p = true) : ∃ n, b.hi = some n ∧ p n = true := by
  cases hb : b.hi with
  | none => rw [hb] at h; simp at h
  | some n => rw [hb] at h; exact ⟨n, rfl, by simpa using h⟩
theorem any_lo {b : Bd} {p : Int → Bool} (h : b.lo.any p = true) : ∃ n, b.lo = some n ∧ p n = true := by
  cases hb : b.lo with
  | none => rw [hb] at h; simp at h
  | some n => rw [hb] at h; exact ⟨n, rfl, by simpa using h⟩

theorem any_fact {pc : List SB} {x : SB} (hp : holds Φ ρ pc) (h : pc.any (fun f => SB.same f x) = true) : x.ev Φ ρ = true := by
  obtain ⟨f, hf, hs⟩ := List.any_eq_true.1 h
  rw [← SB.same_ev Φ ρ _ _ hs]; exact hp f hf

theorem knownAt_ok {pc : List SB} {x : SB} {b : Bool} (hp : holds Φ ρ pc) (h : knownAt pc x = some b) : x.ev Φ ρ = b := by
  unfold knownAt at h
  split at h
  · simpa using h
  · simp only at h
    split at h
    · rename_i h1; obtain ⟨m, hm, hlt⟩ := any_hi h1; have := (bdOf_ok Φ ρ hp).2 _ hm; simp at h hlt; subst h; simp; omega
    · split at h
      · rename_i h1; obtain ⟨m, hm, hlt⟩ := any_lo h1; have := (bdOf_ok Φ ρ hp).1 _ hm; simp at h hlt; subst h; simp; omega
      · cases h
  · simp only at h
    split at h
    · rename_i h1; obtain ⟨m, hm, hlt⟩ := any_lo h1; have := (bdOf_ok Φ ρ hp).1 _ hm; simp at h hlt; subst h; simp; omega
    · split at h
      · rename_i h1; obtain ⟨m, hm, hlt⟩ := any_hi h1; have := (bdOf_ok Φ ρ hp).2 _ hm; simp at h hlt; subst h; simp; omega
      · cases h
  · simp only at h
    split at h
    · rename_i h1; obtain ⟨m, hm, hlt⟩ := any_hi h1; have := (bdOf_ok Φ ρ hp).2 _ hm; simp at h hlt; subst h; simp; omega
    · split at h
      · rename_i h1; obtain ⟨m, hm, hlt⟩ := any_lo h1; have := (bdOf_ok Φ ρ hp).1 _ hm; simp at h hlt; subst h; simp; omega
      · cases h
  · simp only at h
    split at h
    · rename_i h1; obtain ⟨m, hm, hlt⟩ := any_lo h1; have := (bdOf_ok Φ ρ hp).1 _ hm; simp at h hlt; subst h; simp; omega
    · split at h
      · rename_i h1; obtain ⟨m, hm, hlt⟩ := any_hi h1; have := (bdOf_ok Φ ρ hp).2 _ hm; simp at h hlt; subst h; simp; omega
      · cases h
  · simp only at h
    split at h
    · rename_i h1
      simp only [Bool.or_eq_true] at h1
      simp at h; subst h; simp
      rcases h1 with h1 | h1
      · obtain ⟨m, hm, hlt⟩ := any_lo h1; have := (bdOf_ok Φ ρ hp).1 _ hm; simp at hlt; omega
      · obtain ⟨m, hm, hlt⟩ := any_hi h1; have := (bdOf_ok Φ ρ hp).2 _ hm; simp at hlt; omega
    · split at h
      · rename_i h1
        simp only [Bool.and_eq_true, decide_eq_true_eq] at h1
        have := (bdOf_ok Φ ρ hp).1 _ h1.1; have := (bdOf_ok Φ ρ hp).2 _ h1.2
        simp at h; subst h; simp; omega
      · split at h
        · rename_i h1
          have := any_fact Φ ρ hp h1
          simp at this h; subst h; simpa using this
        · cases h
  · split at h
    · rename_i h1; simp at h; subst h; exact any_fact Φ ρ hp h1
    · split at h
      · rename_i h1; have := any_fact Φ ρ hp h1; simp at this h; subst h; exact this
      · cases h

theorem known_ok {pc : List SB} (hp : holds Φ ρ pc) : ∀ (x : SB) (b : Bool), known pc x = some b → x.ev Φ ρ = b := by
  intro x
  induction x with
  | not x ih =>
    intro b h
    simp only [known, Option.map_eq_some_iff] at h
    obtain ⟨c, hc, rfl⟩ := h
    simp [ih c hc]
  | and x y ih1 ih2 =>
    intro b h
    simp only [known] at h
    split at h
    · rename_i h1 h2; simp at h; subst h; simp [ih1 _ h1, ih2 _ h2]
    · rename_i h1; simp at h; subst h; simp [ih1 _ h1]
    · rename_i h1 _; simp at h; subst h; simp [ih2 _ h1]
    · cases h
  | or x y ih1 ih2 =>
    intro b h
    simp only [known] at h
    split at h
    · rename_i h1 h2; simp at h; subst h; simp [ih1 _ h1, ih2 _ h2]
    · rename_i h1; simp at h; subst h; simp [ih1 _ h1]
    · rename_i h1 _; simp at h; subst h; simp [ih2 _ h1]
    · cases h
  | _ => intro b h; exact knownAt_ok Φ ρ hp (by simpa [known] using h)

theorem addFact_ok {pc : List SB} {x : SB} (hp : holds Φ ρ pc) (h : x.ev Φ ρ = true) : holds Φ ρ (addFact pc x) := by
  unfold addFact
  split
  · exact hp
  · simp at h; exact holds_cons Φ ρ h.2 (holds_cons Φ ρ h.1 hp)
  · simp at h; exact holds_cons Φ ρ (by simp [h.2]) (holds_cons Φ ρ (by simp [h.1]) hp)
  · exact holds_cons Φ ρ h hp

theorem ways_ok {pc : List SB} (x : SB) (hp : holds Φ ρ pc) : ∃ b pc', (b, pc') ∈ ways pc x ∧ x.ev Φ ρ = b ∧ holds Φ ρ pc' := by
  unfold ways
  cases hk : known pc x with
  | some b => exact ⟨b, pc, by simp, known_ok Φ ρ hp x b hk, hp⟩
  | none =>
    cases hx : x.ev Φ ρ with
    | true => exact ⟨true, addFact pc x, by simp, rfl, addFact_ok Φ ρ hp hx⟩
    | false => exact ⟨false, addFact pc (mkNot x), by simp, rfl, addFact_ok Φ ρ hp (by simp [hx])⟩
end
end Go.SE
