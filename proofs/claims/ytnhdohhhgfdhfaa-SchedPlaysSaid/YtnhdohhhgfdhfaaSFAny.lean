/- A region whose order is open: what only reads, and reads what nothing in the region writes, may be taken first. -/
import Derived.Test.YtnhdohhhgfdhfaaSFStep
import Derived.Orders
import Derived.Still
namespace Go.SF
set_option linter.unusedVariables false
set_option linter.unusedSimpArgs false

section
variable {P : Program} {ops : Array Oper} {I : World → Prop} {Q : Act → World → Prop}

/-- No way out but the plain one. -/
def noQ : Exit → Act → World → Prop := fun _ _ _ => False

/-- Operation number i comes up; what follows is K. -/
def opG (P : Program) (ops : Array Oper) (i : Nat) (K : Act → World → Prop) (a : Act) (w : World) : Prop :=
  ∃ o, ops[i]? = some o ∧ (if Region.wanted o (yielded ops a.tmps) then o.wp P a w K noQ else K (a.put o.dst undef) w)

/-- Whatever order is taken: I holds all the while, and Q at the end. -/
def anyG (P : Program) (ops : Array Oper) (I : World → Prop) (Q : Act → World → Prop) : Nat → Array Bool → Act → World → Prop
  | 0, l, a, w => I w ∧ Region.ready .any ops l = [] ∧ Q a w
  | n + 1, l, a, w => I w ∧ (Region.ready .any ops l = [] → Q a w) ∧ ∀ i ∈ Region.ready .any ops l, opG P ops i (anyG P ops I Q n (l.setIfInBounds i true)) a w

theorem opG_mono {i : Nat} {K K' : Act → World → Prop} {a : Act} {w : World} (h : ∀ a w, K a w → K' a w) (hh : opG P ops i K a w) : opG P ops i K' a w := by
  obtain ⟨o, ho, hh⟩ := hh
  refine ⟨o, ho, ?_⟩
  split
  · rename_i hw; rw [if_pos hw] at hh; exact Oper.wp_mono h hh
  · rename_i hw; rw [if_neg hw] at hh; exact h _ _ hh

theorem wp_noQ {o : Oper} {a : Act} {w : World} {K : Act → World → Prop} {Q' : Exit → Act → World → Prop} (h : o.wp P a w K noQ) : o.wp P a w K Q' := by
  unfold Oper.wp at *
  generalize (execOp a.eval o).run P w = r at *
  cases r with
  | ok n w' =>
    cases n <;> simp only [Oper.upon] at h ⊢ <;> try exact h
    exact Calls.mono h fun e w'' he => by
      cases e with
      | returned v => exact he
      | panicked c => exact he.elim
      | outgrown => obtain ⟨_, _, h⟩ := he; exact h.elim
  | halt x w' => cases x <;> simp only [Oper.upon] at h ⊢ <;> exact h.elim

theorem wpAny_of_anyG {Q' : Exit → Act → World → Prop} (hq : ∀ a w, Q a w → Q' .normal a w) : ∀ (n : Nat) (l : Array Bool) (a : Act) (w : World), anyG P ops I Q n l a w → wpAny P .any ops Q' n l a w
  | 0, _, _, _, h => ⟨h.2.1, hq _ _ h.2.2⟩
  | n + 1, l, a, w, h => by
    refine ⟨fun h0 => hq _ _ (h.2.1 h0), fun i hi => ?_⟩
    obtain ⟨o, ho, hh⟩ := h.2.2 i hi
    unfold wpOp
    rw [ho]
    simp only
    split
    · rename_i hw
      rw [if_pos hw] at hh
      exact .inl (wp_noQ (Oper.wp_mono (fun a w h => wpAny_of_anyG hq n _ a w h) hh))
    · rename_i hw
      rw [if_neg hw] at hh
      exact wpAny_of_anyG hq n _ _ _ hh

/-- In every world of I, operation o leaves v in its slot, and the world as it was. -/
def YS (P : Program) (ops : Array Oper) (I : World → Prop) (o : Oper) (v : Value) (a : Act) : Prop :=
  (Region.wanted o (yielded ops a.tmps) = true ∧ ∀ w, I w → ∃ n, (execOp a.eval o).run P w = .ok n w ∧ (n = .value v ∨ n = .skip ∧ v = undef)) ∨
  (Region.wanted o (yielded ops a.tmps) = false ∧ v = undef)

theorem YS.opG {i : Nat} {o : Oper} {v : Value} {a : Act} {w : World} (hi : ops[i]? = some o) (hy : YS P ops I o v a) (hw : I w) {K : Act → World → Prop} (h : K (a.put o.dst v) w) : opG P ops i K a w := by
  refine ⟨o, hi, ?_⟩
  rcases hy with ⟨hwa, hv⟩ | ⟨hwa, rfl⟩
  · rw [if_pos hwa]
    obtain ⟨n, hr, hn⟩ := hv w hw
    unfold Oper.wp
    rw [hr]
    rcases hn with rfl | ⟨rfl, rfl⟩
    · exact h
    · exact h
  · rw [if_neg (by simp [hwa])]; exact h

theorem YS.of_same {o : Oper} {v : Value} {a a' : Act} (hy : YS P ops I o v a) (he : execOp a'.eval o = execOp a.eval o)
    (hw : Region.wanted o (yielded ops a'.tmps) = Region.wanted o (yielded ops a.tmps)) : YS P ops I o v a' := by
  unfold YS at *
  rw [he, hw]
  exact hy

/-- One operation 'oj', apart from 'oi': it makes no difference whether oi's value is there already. -/
theorem opG_put {j : Nat} {oi oj : Oper} {v : Value} (hj : ops[j]? = some oj) (hap : oi.apart ops oj = true) (hsi : ∀ cs b, oi.op ≠ .select cs b) (hsj : ∀ cs b, oj.op ≠ .select cs b)
    {K : Act → World → Prop} {a : Act} {w : World} (hy : YS P ops I oi v a) (h : opG P ops j K (a.put oi.dst v) w) :
    opG P ops j (fun a' w' => YS P ops I oi v a' ∧ K (a'.put oi.dst v) w') a w := by
  obtain ⟨h1, h2, h3⟩ := Oper.apart_spec hap
  have keep : ∀ u, YS P ops I oi v (a.put oj.dst u) := fun u =>
    hy.of_same (execOp_put oi hsi a oj.dst u h3) (wanted_put oi a oj.dst u h3)
  obtain ⟨o, ho, hh⟩ := h
  rw [hj] at ho; cases ho
  refine ⟨oj, hj, ?_⟩
  rw [wanted_put oj a oi.dst v h1] at hh
  have comm : ∀ u, (a.put oi.dst v).put oj.dst u = (a.put oj.dst u).put oi.dst v := fun u => (Act.put_comm a v u h2)
  split
  · rename_i hw
    rw [if_pos hw] at hh
    unfold Oper.wp at *
    rw [execOp_put oj hsj a oi.dst v h1] at hh
    generalize hr : (execOp a.eval oj).run P w = r at *
    cases r with
    | ok n w' =>
      cases n <;> simp only [Oper.upon] at hh ⊢
      case value u => exact ⟨keep u, by rw [← comm]; exact hh⟩
      case skip => exact ⟨keep undef, by rw [← comm]; exact hh⟩
      case enter f args =>
        exact Calls.mono hh fun e w'' he => by
          cases e with
          | returned u => exact ⟨keep u, by rw [← comm]; exact he⟩
          | panicked c => exact he.elim
          | outgrown => exact he
      case row r args => exact Rows.mono hh fun u w'' he => ⟨keep u, by rw [← comm]; exact he⟩
      case defer d =>
        rw [Act.put_defers] at hh
        have hk : YS P ops I oi v (({ a with defers := d :: a.defers } : Act).put oj.dst undef) :=
          (hy.of_same (a' := { a with defers := d :: a.defers }) rfl rfl).of_same (execOp_put oi hsi _ oj.dst undef h3) (wanted_put oi _ oj.dst undef h3)
        refine ⟨hk, ?_⟩
        rw [← Act.put_comm ({ a with defers := d :: a.defers } : Act) v undef h2]
        exact hh
    | halt x w' => cases x <;> simp only [Oper.upon] at hh ⊢ <;> exact hh.elim
  · rename_i hw
    rw [if_neg hw] at hh
    exact ⟨keep _, by rw [← comm]; exact hh⟩

/-- What yields the same in every world of I may be taken first, if what has not come up yet waits for it, or is apart from it. -/
theorem anyG_first {i : Nat} {oi : Oper} {v : Value} (hi : ops[i]? = some oi) (hsel : ∀ (j : Nat) (o : Oper) cs b, ops[j]? = some o → o.op ≠ .select cs b) :
    ∀ (n : Nat) (l : Array Bool) (a : Act) (w : World),
      (∀ j oj, ops[j]? = some oj → j ≠ i → l.getD j true = false → (∀ e ∈ oj.after, Region.binds .any e = true → e.on ≠ i) → oi.apart ops oj = true) →
      i ∈ Region.ready .any ops l → YS P ops I oi v a → anyG P ops I Q n (l.setIfInBounds i true) (a.put oi.dst v) w → anyG P ops I Q (n + 1) l a w := by
  intro n
  induction n with
  | zero =>
    intro l a w _ hr hy H
    refine ⟨H.1, fun h => (by rw [h] at hr; cases hr), fun j hj => ?_⟩
    by_cases hji : j = i
    · subst hji; exact hy.opG hi H.1 H
    · have := ready_mono hj hji
      rw [H.2.1] at this
      cases this
  | succ n ih =>
    intro l a w hfree hr hy H
    refine ⟨H.1, fun h => (by rw [h] at hr; cases hr), fun j hj => ?_⟩
    by_cases hji : j = i
    · subst hji; exact hy.opG hi H.1 H
    · have h1 := H.2.2 j (ready_mono hj hji)
      obtain ⟨hjun, oj, hoj, hall⟩ := mem_ready.1 hj
      have hnot : ∀ e ∈ oj.after, Region.binds .any e = true → e.on ≠ i := fun e he hb heq => by
        have h1 := hall e he hb
        have h0 := (mem_ready.1 hr).1
        rw [heq] at h1
        rcases Nat.lt_or_ge i l.size with h' | h'
        · simp [h'] at h0 h1; rw [h0] at h1; cases h1
        · simp [Array.getElem?_eq_none h'] at h1
      have h2 := opG_put hoj (hfree j oj hoj hji hjun hnot) (fun cs b => hsel i oi cs b hi) (fun cs b => hsel j oj cs b hoj) hy h1
      have hfree' : ∀ k ok, ops[k]? = some ok → k ≠ i → (l.setIfInBounds j true).getD k true = false →
          (∀ e ∈ ok.after, Region.binds .any e = true → e.on ≠ i) → oi.apart ops ok = true := fun k ok hk hki hun hno => by
        refine hfree k ok hk hki ?_ hno
        by_cases hjk : j = k
        · subst hjk; exact hjun
        · rw [getD_set_ne true hjk] at hun; exact hun
      refine opG_mono (fun a' w' h3 => ih (l.setIfInBounds j true) a' w' hfree' (ready_mono hr (Ne.symm hji)) h3.1 ?_) h2
      rw [Array.setIfInBounds_comm _ _ hji]
      exact h3.2
end
end Go.SF
