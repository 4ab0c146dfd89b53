/- What is to be shown of a law: every way out returns true, and nothing is written that was there. -/
import Derived.Test.YtondflokjmdaiaaSESound3
import Derived.Below
namespace Go.SE
open Go.RowKit
set_option linter.unusedVariables false

section
variable {D : Type} {Φ : Sig D} {ρ : Env D} {μ ν : List Loc} {P : Program} {tbl : Tbl} {w0 w : World} {s : St} {a : Act} {pc : List SB}

/-- No contracts. -/
def noTbl : Tbl := fun _ => none
theorem noTbl_ok : TblOK Φ ρ P noTbl := fun _ _ h => by cases h

def isTrue (k0 : Nat) (o : List SB × Option (AV × Mem)) : Bool :=
  match o.2 with
  | some (.cv (.b x), m) => known o.1 x == some true && m.wr.all fun i => Nat.ble k0 i
  | _ => false
def topB (P : Program) (tbl : Tbl) (fuel f : Nat) (vs : List AV) (m : Mem) (pc : List SB) : Bool :=
  match exCall P tbl fuel f vs m pc with
  | some outs => outs.all (isTrue m.o.length)
  | none => false

theorem top {f fuel : Nat} {vs : List AV} {m : Mem} {xs : List Value} (htbl : TblOK Φ ρ P tbl) (h : topB P tbl fuel f vs m pc = true) (hwr : m.wr = []) (hd : DenAll Φ ρ μ vs xs) (hM : MRel Φ ρ μ w m w) (hp : holds Φ ρ pc) :
    Calls P f xs.toArray w fun e w' => e = .returned (.bool true) ∧ Below w.heap.size w w' := by
  unfold topB at h
  split at h
  · rename_i outs ho
    rw [List.all_eq_true] at h
    have hc := (all_ok htbl fuel).2.2.2.1 f vs m pc outs ho μ w w xs hd hM hp (fun x w' => x = .bool true ∧ Below w.heap.size w w') ?_
    · refine Calls.mono hc fun e w' he => ?_
      obtain ⟨x, rfl, rfl, hb⟩ := he
      exact ⟨rfl, hb⟩
    · intro o hmem hpo
      have := h o hmem
      unfold isTrue at this
      split at this
      · rename_i x m' he
        rw [he]
        intro ν w' y hn hdy hM'
        simp only [Bool.and_eq_true, beq_iff_eq, List.all_eq_true] at this
        have hx := known_ok Φ ρ hpo x true this.1
        simp only [den, denC, hx, Option.some.injEq] at hdy
        refine ⟨hdy.symm, hM'.os.1, hM'.os.2.1, hM'.os.2.2, hM'.sz, fun b hb => hM'.fr b hb fun i l hi hl hlb => ?_⟩
        have hi' := Nat.le_of_ble_eq_true (this.2 i hi)
        rw [← hM.len] at hi'
        rw [List.getElem?_append_right hi'] at hl
        have := hn l (List.mem_of_getElem? hl)
        omega
      · cases this
  · cases h

theorem mrel_nil : MRel Φ ρ [] w ⟨[], []⟩ w where
  len := rfl
  apart := fun i j cs ty o li lj h => by simp at h
  obj := fun i o l h => by simp at h
  fr := fun _ _ _ => rfl
  sz := Nat.le_refl _
  os := ⟨rfl, rfl, rfl⟩
  lt := fun i o l h => by simp at h
  wap := fun i j o li lj h => by cases h
  wlt := fun i h => by cases h


/-- What is written anew touches nothing that is named. -/
theorem MRel.below {m : Mem} {w' : World} (h : MRel Φ ρ μ w0 m w) (hb : Below w.heap.size w w') : MRel Φ ρ μ w0 m w' where
  len := h.len
  apart := h.apart
  obj := fun i o l ho hl => by
    cases ha : o.alive with
    | true => exact (h.obj i o l ho hl).of_heap (hb.block _ (h.lt i o l ho ha hl))
    | false =>
      cases o with
      | cells => simp [AObj.alive] at ha
      | ext => simp [AObj.alive] at ha
      | dead => trivial
  fr := fun b hlt hne => (hb.block b (Nat.lt_of_lt_of_le hlt h.sz)).trans (h.fr b hlt hne)
  sz := Nat.le_trans h.sz hb.size
  os := ⟨hb.os.trans h.os.1, hb.tape.trans h.os.2.1, hb.output.trans h.os.2.2⟩
  lt := fun i o l ho ha hl => Nat.lt_of_lt_of_le (h.lt i o l ho ha hl) hb.size
  wap := h.wap
  wlt := fun i hi => ⟨(h.wlt i hi).1, fun l hl => Nat.lt_of_lt_of_le ((h.wlt i hi).2 l hl) hb.size⟩

/-- A function that answers true whatever it is given, and writes nothing that was there. -/
theorem CallOK.yes {f : Nat} {vs : List AV} {m : Mem} (h : ∀ (μ : List Loc) (w : World) (xs : List Value), DenAll Φ ρ μ vs xs → Calls P f xs.toArray w fun e w' => e = .returned (.bool true) ∧ Below w.heap.size w w') :
    CallOK Φ ρ P f vs m pc [(pc, some (.cv (.b (.c true)), m))] := by
  intro μ w0 w xs hx hM hp R hR
  refine Calls.mono (h μ w xs hx) fun e w' he => ?_
  obtain ⟨rfl, hb⟩ := he
  refine ⟨_, rfl, ?_⟩
  have := hR _ (List.mem_singleton.2 rfl) hp
  exact this [] w' (.bool true) New.nil (by simp [den, denC, SB.ev]) (by simpa using hM.below hb)
end
end Go.SE
