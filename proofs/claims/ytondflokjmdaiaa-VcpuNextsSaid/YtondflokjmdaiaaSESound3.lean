/- The machine of unknowns is right: regions in whatever order, calls, code; and the induction. -/
import Derived.Test.YtondflokjmdaiaaSESound2
namespace Go.SE
set_option linter.unusedVariables false
set_option linter.unusedSimpArgs false

section
variable {D : Type} {Φ : Sig D} {ρ : Env D} {μ ν : List Loc} {P : Program} {tbl : Tbl} {w0 w : World} {s : St} {a : Act} {pc : List SB}

theorem unl_set {l : Array Bool} {i n : Nat} (h : l.getD i true = false) (hn : unl l ≤ n) : ∃ k, n = k + 1 ∧ unl (l.setIfInBounds i true) ≤ k := by
  have hi : i < l.size := by
    rcases Nat.lt_or_ge i l.size with h' | h'
    · exact h'
    · simp [Array.getD, Nat.not_lt.2 h'] at h
  have hv : l[i] = false := by simpa [Array.getD, hi] using h
  have hc : (l.toList.set i true).count false = l.toList.count false - 1 := by
    rw [List.count_set (by simpa using hi)]
    simp [hv]
  have hpos : 0 < l.toList.count false := List.count_pos_iff.2 (by
    rw [← hv]; simp)
  unfold unl at hn ⊢
  rw [Array.toList_setIfInBounds, hc]
  exact ⟨n - 1, by omega, by omega⟩

theorem any_ok {fuel : Nat} {S : List Nat} (hone : ∀ o s pc outs, exOne P tbl fuel o s pc = some outs → OneOK Φ ρ P o s pc outs)
    (hany : ∀ S all l s pc outs, exAny P tbl S fuel all l s pc = some outs → AnyOK Φ ρ P S all l s pc outs) {all : Array Oper} {l : Array Bool} {outs : List Out}
    (h : exAny P tbl S (fuel + 1) all l s pc = some outs) : AnyOK Φ ρ P S all l s pc outs := by
  intro hsel hc μ ν w0 w a hS hnew hT hM hp Q hQn hQ n hn
  simp only [exAny] at h
  have hI := kept_ok hM hc hS
  split at h
  · rename_i hr
    simp at h; subst h
    have hq : Q .norm a w := hQ _ (List.mem_singleton.2 rfl) hp [] a w New.nil (by simpa using hT) (by simpa using hM)
    cases n with
    | zero => exact ⟨hI, hr, hq⟩
    | succ n => exact ⟨hI, fun _ => hq, fun i hi => by rw [hr] at hi; cases hi⟩
  · rename_i i0 is hr
    have pick : ∀ i ∈ Region.ready .any all l, ∃ k, n = k + 1 ∧ unl (l.setIfInBounds i true) ≤ k := fun i hi => unl_set (mem_ready.1 hi).1 hn
    split at h
    · rename_i i o pc' v hfq
      have hfq' : ∀ is, firstQuiet P S all l s pc is = some (i, o, pc', v) → i ∈ is ∧ all[i]? = some o ∧ Region.free .any all l i = true ∧ quietStep P S all s pc o = some (pc', v) := by
        intro is
        induction is with
        | nil => intro h; simp [firstQuiet] at h
        | cons j js ih =>
          intro h
          simp only [firstQuiet] at h
          split at h
          · rename_i oj hoj
            split at h
            · rename_i hfr
              split at h
              · rename_i p1 v1 hq1
                simp at h
                obtain ⟨rfl, rfl, rfl, rfl⟩ := h
                exact ⟨by simp, hoj, hfr, hq1⟩
              · obtain ⟨h1, h2⟩ := ih h; exact ⟨List.mem_cons_of_mem _ h1, h2⟩
            · obtain ⟨h1, h2⟩ := ih h; exact ⟨List.mem_cons_of_mem _ h1, h2⟩
          · obtain ⟨h1, h2⟩ := ih h; exact ⟨List.mem_cons_of_mem _ h1, h2⟩
      obtain ⟨hmem, ho, hfr, hq⟩ := hfq' _ hfq
      rw [← hr] at hmem
      obtain ⟨k, rfl, hk⟩ := pick i hmem
      obtain ⟨hp', x, hd, hy⟩ := quiet_ok hq hT hM hp hc hS
      split at h
      · cases h
      · rename_i s' hs'
        obtain ⟨hT', hm'⟩ := put_ok (ν := []) hs' hT (by simpa using hd)
        have hrest := hany S all _ s' pc' outs h hsel (hm' ▸ hc) μ ν w0 w _ hS hnew (by simpa using hT') (hm' ▸ hM) hp' Q hQn hQ k hk
        exact anyG_first ho (Region.noSelect_spec hsel) k l a w (Region.free_spec ho hfr) hmem hy hrest
    · cases n with
      | zero =>
        obtain ⟨k, hk, _⟩ := pick i0 (by rw [hr]; simp)
        omega
      | succ k =>
        refine ⟨hI, fun h0 => (by rw [hr] at h0; cases h0), fun i hi => ?_⟩
        obtain ⟨k', hk', hku⟩ := pick i hi
        obtain rfl : k = k' := by omega
        rw [hr] at hi
        obtain ⟨us, hus, hsub⟩ := bindO_mem h _ hi
        have hQ1 := hQ.sub hsub
        split at hus
        · cases hus
        · rename_i o ho
          refine ⟨o, ho, ?_⟩
          split at hus
          · cases hus
          · rename_i ws hws
            obtain ⟨b, pc', hmem, hp', hb⟩ := wanted_ok hws hT hp
            obtain ⟨ys, hys, hsub1⟩ := bindO_mem hus _ hmem
            have hQ' := hQ1.sub hsub1
            rw [hb]
            cases b with
            | false =>
              simp only at hys
              split at hys
              · cases hys
              · rename_i s' hs'
                obtain ⟨hT', hm'⟩ := put_ok (ν := []) hs' hT (x := undef) undef_ok
                rw [if_neg (by simp)]
                exact hany S all _ s' pc' _ hys hsel (hm' ▸ hc) μ ν w0 w _ hS hnew (by simpa using hT') (hm' ▸ hM) hp' Q hQn hQ' k hku
            | true =>
              simp only at hys
              split at hys
              · cases hys
              · rename_i outs1 ho1
                rw [if_pos rfl]
                refine hone _ _ _ _ ho1 (μ ++ ν) w0 w a hT hM hp' _ ?_
                intro y hy hpy
                obtain ⟨zs, hzs, hsub2⟩ := bindO_mem hys _ hy
                obtain ⟨py, vy⟩ := y
                cases vy with
                | none =>
                  simp at hzs; subst hzs
                  exact hQn _ _ (hQ' _ (hsub2 _ (List.mem_singleton.2 rfl)) hpy [] a w New.nil (by simpa using hT) (by simpa using hM))
                | some vm =>
                  obtain ⟨v, m⟩ := vm
                  intro ν' w' x hn' hd hM'
                  simp only at hzs
                  split at hzs
                  · rename_i hcl
                    split at hzs
                    · cases hzs
                    · rename_i s' hs'
                      obtain ⟨hT', hm'⟩ := put_ok hs' hT hd
                      rw [List.append_assoc] at hT' hM'
                      have hlater := (hQ'.sub hsub2).later hn'
                      rw [List.append_assoc] at hlater
                      exact hany S all _ s' py _ hzs hsel (hm' ▸ hcl) μ (ν ++ ν') w0 w' _ hS (hnew.app hn') hT' (hm' ▸ hM') hpy Q hQn hlater k hku
                  · cases hzs

theorem leave_ok {fn : Func} : ∀ {os : List Out} {outs : List (List SB × Option (AV × Mem))}, leave P fn os = some outs → ∀ o ∈ os, match o.ex with
    | .norm | .ret => ∃ vs v, resOf P o.st o.pc fn.results.toList = some vs ∧ resV vs = some v ∧ (o.pc, some (v, o.st.m)) ∈ outs
    | .panic => (o.pc, none) ∈ outs
    | .exit _ => False
  | [], outs, h, o, ho => by cases ho
  | o' :: os, outs, h, o, ho => by
    simp only [leave] at h
    split at h
    · cases h
    · rename_i l hl
      have ih := leave_ok hl
      rcases List.mem_cons.1 ho with rfl | ho
      · cases he : o.ex <;> simp only [he] at h ⊢
        case exit => cases h
        case panic => simp at h; subst h; simp
        all_goals
          split at h
          · cases h
          · rename_i vs hvs
            split at h
            · cases h
            · rename_i v hv
              simp at h; subst h
              exact ⟨vs, v, hvs, hv, by simp⟩
      · have := ih o ho
        have hsub : ∀ x ∈ l, x ∈ outs := by
          intro x hx
          cases he : o'.ex <;> simp only [he] at h
          case exit => cases h
          case panic => simp at h; subst h; simp [hx]
          all_goals
            split at h
            · cases h
            · split at h
              · cases h
              · simp at h; subst h; simp [hx]
        cases he : o.ex <;> simp only [he] at this ⊢
        case panic => exact hsub _ this
        all_goals
          obtain ⟨vs, v, h1, h2, h3⟩ := this
          exact ⟨vs, v, h1, h2, hsub _ h3⟩

theorem call_ok {fuel : Nat} (htbl : TblOK Φ ρ P tbl) (hcode : ∀ c s pc outs, exCode P tbl fuel c s pc = some outs → CodeOK Φ ρ P c s pc outs)
    {f : Nat} {vs : List AV} {m : Mem} {outs : List (List SB × Option (AV × Mem))} (h : exCall P tbl (fuel + 1) f vs m pc = some outs) : CallOK Φ ρ P f vs m pc outs := by
  simp only [exCall] at h
  split at h
  · rename_i g hg
    exact htbl f g hg vs m pc outs h
  · split at h
    · cases h
    · rename_i fn hf
      split at h
      · cases h
      · rename_i body hb
        split at h
        · cases h
        · rename_i os hos
          intro μ w0 w xs hx hM hp R hR
          refine calls_of_wp hf hb ?_
          have hl := leave_ok h
          refine (hcode _ _ _ _ hos μ w0 w _ (enter_ok hx fn.ntmps) hM hp _ ?_).1
          intro o ho hpo ν a' w' hnew hT hM'
          have := hl o ho
          cases he : o.ex <;> simp only [he] at this
          case panic => exact (hR _ this hpo)
          all_goals
            obtain ⟨us, v, h1, h2, h3⟩ := this
            obtain ⟨x, hd, hrun⟩ := results_ok (s := o.st) hT hM' hpo h1 h2
            exact ⟨hT.df, x, hrun, x, rfl, hR _ h3 hpo ν w' x hnew hd hM'⟩

theorem rebase0 {w' : World} (hM : MRel Φ ρ μ w0 s.m w) (he : w'.heap = w.heap) : MRel Φ ρ μ w' { s.m with wr := [] } w' where
  len := hM.len
  apart := hM.apart
  obj := fun i o l ho hl => (hM.obj i o l ho hl).of_heap (by rw [he])
  fr := fun _ _ _ => rfl
  sz := Nat.le_refl _
  os := ⟨rfl, rfl, rfl⟩
  lt := fun i o l ho ha hl => by rw [he]; exact hM.lt i o l ho ha hl
  wap := fun i j o li lj hi => by cases hi
  wlt := fun i hi => by cases hi

theorem aliveLe_ok : ∀ {os os' : List AObj} {j : Nat} {o : AObj}, aliveLe os os' = true → j < os.length → os'[j]? = some o → o.alive = true → ∃ o', os[j]? = some o' ∧ o'.alive = true
  | [], os', j, o, _, hj, _, _ => by simp at hj
  | x :: os, [], j, o, _, _, h, _ => by simp at h
  | x :: os, y :: os', 0, o, h, _, ho, ha => by
    simp at ho; subst ho
    simp only [aliveLe, Bool.and_eq_true, Bool.or_eq_true, Bool.not_eq_true'] at h
    rcases h.1 with h1 | h1
    · rw [h1] at ha; cases ha
    · exact ⟨x, rfl, h1⟩
  | x :: os, y :: os', j + 1, o, h, hj, ho, ha => by
    simp only [aliveLe, Bool.and_eq_true] at h
    simpa using aliveLe_ok h.2 (by simpa using hj) (by simpa using ho) ha

theorem rebase1 {m0 m1 : Mem} {wR wR' w1 : World} (hM : MRel Φ ρ μ w0 m0 wR) (hM1 : MRel Φ ρ (μ ++ ν) wR' m1 w1) (hh : wR'.heap = wR.heap) (hos : wR'.os = wR.os ∧ wR'.tape = wR.tape ∧ wR'.output = wR.output)
    (hn : New wR' ν) (hle : aliveLe m0.o m1.o = true) : MRel Φ ρ (μ ++ ν) w0 { m1 with wr := m1.wr ++ m0.wr } w1 where
  len := hM1.len
  apart := hM1.apart
  obj := hM1.obj
  fr := fun b hb hne => by
    rw [hM1.fr b (by rw [hh]; exact Nat.lt_of_lt_of_le hb hM.sz) (fun i l hi hl => hne i l (List.mem_append.2 (.inl hi)) hl), hh]
    exact hM.fr b hb fun i l hi hl => hne i l (List.mem_append.2 (.inr hi)) (by rw [List.getElem?_append_left (List.getElem?_eq_some_iff.1 hl).1]; exact hl)
  sz := Nat.le_trans hM.sz (hh ▸ hM1.sz)
  os := ⟨hM1.os.1.trans (hos.1.trans hM.os.1), hM1.os.2.1.trans (hos.2.1.trans hM.os.2.1), hM1.os.2.2.trans (hos.2.2.trans hM.os.2.2)⟩
  lt := hM1.lt
  wap := fun i j o li lj hi hj ho ha hli hlj => by
    have hj1 : j ∉ m1.wr := fun h => hj (List.mem_append.2 (.inl h))
    have hj0 : j ∉ m0.wr := fun h => hj (List.mem_append.2 (.inr h))
    rcases List.mem_append.1 hi with hi | hi
    · exact hM1.wap i j o li lj hi hj1 ho ha hli hlj
    · obtain ⟨hil, hib⟩ := hM.wlt i hi
      rw [← hM.len] at hil
      have hli' : μ[i]? = some li := by rwa [List.getElem?_append_left hil] at hli
      by_cases hjl : j < μ.length
      · have hlj' : μ[j]? = some lj := by rwa [List.getElem?_append_left hjl] at hlj
        obtain ⟨o', ho', ha'⟩ := aliveLe_ok hle (by rw [← hM.len]; exact hjl) ho ha
        exact hM.wap i j o' li lj hi hj0 ho' ha' hli' hlj'
      · rw [List.getElem?_append_right (Nat.le_of_not_lt hjl)] at hlj
        have h1 := hn lj (List.mem_of_getElem? hlj)
        have h2 := hib li hli'
        rw [hh] at h1
        omega
  wlt := fun i hi => by
    rcases List.mem_append.1 hi with hi | hi
    · exact hM1.wlt i hi
    · obtain ⟨hil, hib⟩ := hM.wlt i hi
      rw [← hM.len] at hil
      refine ⟨?_, fun l hl => ?_⟩
      · have := hM1.len
        simp at this ⊢
        omega
      · rw [List.getElem?_append_left hil] at hl
        exact Nat.lt_of_lt_of_le (hib l hl) (hh ▸ hM1.sz)

theorem code_ok {fuel : Nat} (hops : ∀ all rest s pc outs, exOps P tbl fuel all rest s pc = some outs → OpsOK Φ ρ P all rest s pc outs)
    (hany : ∀ S all l s pc outs, exAny P tbl S fuel all l s pc = some outs → AnyOK Φ ρ P S all l s pc outs)
    (hcode : ∀ c s pc outs, exCode P tbl fuel c s pc = some outs → CodeOK Φ ρ P c s pc outs) {c : Code} {outs : List Out} (h : exCode P tbl (fuel + 1) c s pc = some outs) : CodeOK Φ ρ P c s pc outs := by
  intro μ w0 w a hT hM hp Q hQ
  have here : ∀ {ex : Ex}, outs = [⟨pc, ex, s⟩] → toQ Q ex a w := fun he => by
    subst he
    exact hQ _ (List.mem_singleton.2 rfl) hp [] a w New.nil (by simpa using hT) (by simpa using hM)
  cases c with
  | skip => simp only [exCode, Option.some.injEq] at h; exact ⟨wp_skip (here h.symm), fun _ e => by cases e⟩
  | exit id => simp only [exCode, Option.some.injEq] at h; exact ⟨wp_exit (here h.symm), fun _ e => by cases e⟩
  | ret => simp only [exCode, Option.some.injEq] at h; exact ⟨wp_ret (here h.symm), fun _ e => by cases e⟩
  | region id ops draw =>
    refine ⟨?_, fun _ e => by cases e⟩
    cases draw with
    | false => simp only [exCode] at h; exact wp_region_list (hops _ _ _ _ _ h μ w0 w a hT hM hp Q hQ)
    | true =>
      simp only [exCode] at h
      split at h
      · rename_i hcond
        simp only [Bool.and_eq_true] at hcond
        split at h
        · cases h
        · rename_i pre hpre
          split at h
          · cases h
          · rename_i os hos
            split at h
            · cases h
            · rename_i hle
              simp at h; subst h
              simp only [Bool.not_eq_false, List.all_eq_true] at hle
              refine wp_region_any hcond.2 ?_
              have hb := rebase0 (w' := { w with drawn := w.drawn + 1 }) hM rfl
              have halive : ∀ i, aliveAt s.m i = true → ∃ o l, s.m.o[i]? = some o ∧ o.alive = true ∧ μ[i]? = some l := by
                intro i hi
                unfold aliveAt at hi
                split at hi
                · rename_i o ho
                  have hlt : i < μ.length := by rw [hM.len]; exact (List.getElem?_eq_some_iff.1 ho).1
                  exact ⟨o, _, ho, hi, List.getElem?_eq_getElem hlt⟩
                · cases hi
              refine wpAny_of_anyG (fun _ _ h => h) _ _ _ _ (hany _ _ _ _ _ _ hos hcond.1 ?_ μ [] { w with drawn := w.drawn + 1 } { w with drawn := w.drawn + 1 } a ?_ New.nil (by simpa using hT) (by simpa using hb) hp
                (toQ Q) (fun _ _ h => h) ?_ ops.size ?_)
              · unfold clean
                rw [Bool.and_eq_true]
                refine ⟨rfl, List.all_eq_true.2 fun i hi => ?_⟩
                have := (List.mem_filter.1 hi).2
                simp only [Bool.and_eq_true] at this
                exact this.2
              · intro i hi
                have := (List.mem_filter.1 hi).2
                simp only [Bool.and_eq_true] at this
                obtain ⟨o, l, ho, ha, hl⟩ := halive i this.2
                exact ⟨l, hl, hM.lt i o l ho ha hl⟩
              · intro o ho hpo ν a' w' hn hT' hM'
                simp only [List.append_nil] at hT' hM'
                have hnew : New w0 ν := fun l hl => Nat.le_trans hM.sz (hn l hl)
                exact hQ _ (List.mem_map_of_mem ho) hpo ν a' w' hnew hT' (rebase1 hM hM' rfl ⟨rfl, rfl, rfl⟩ hn (hle o ho))
              · unfold unl
                refine Nat.le_trans List.count_le_length ?_
                simp
      · cases h
  | seq x y =>
    refine ⟨?_, fun _ e => by cases e⟩
    simp only [exCode] at h
    split at h
    · cases h
    · rename_i os hos
      refine wp_seq (hcode _ _ _ _ hos μ w0 w a hT hM hp _ ?_).1
      intro o ho hpo ν a' w' hn hT' hM'
      obtain ⟨ys, hys, hsub⟩ := bindO_mem h _ ho
      have hQ' := (hQ.sub hsub).later hn
      cases he : o.ex <;> simp only [he] at hys
      case norm => exact (hcode _ _ _ _ hys (μ ++ ν) w0 w' a' hT' hM' hpo Q hQ').1
      all_goals
        simp at hys; subst hys
        exact hQ' _ (List.mem_singleton.2 rfl) hpo [] a' w' New.nil (by simpa using hT') (by simpa using hM')
  | cond x c1 c2 =>
    refine ⟨?_, fun _ e => by cases e⟩
    simp only [exCode] at h
    split at h
    · rename_i b hb
      obtain ⟨t, pc', hmem, hev, hp'⟩ := ways_ok Φ ρ b hp
      obtain ⟨ys, hys, hsub⟩ := bindO_mem h _ hmem
      have hv := opnd_ok hT hb
      simp only [den, denC, hev, Option.some.injEq] at hv
      exact wp_cond hv.symm (hcode _ _ _ _ hys μ w0 w a hT hM hp' Q (hQ.sub hsub)).1
    · cases h
  | block id c =>
    refine ⟨?_, fun _ e => by cases e⟩
    simp only [exCode] at h
    split at h
    · cases h
    · rename_i os hos
      simp at h; subst h
      refine wp_block (hcode _ _ _ _ hos μ w0 w a hT hM hp _ ?_).1
      intro o ho hpo ν a' w' hn hT' hM'
      have := hQ _ (List.mem_map_of_mem ho)
      cases he : o.ex <;> simp only [he] at this
      case exit i =>
        simp only [toQ, Exit.inBlock]
        split
        · rename_i hid
          rw [if_pos hid] at this
          exact this hpo ν a' w' hn hT' hM'
        · rename_i hid
          rw [if_neg hid] at this
          have := this hpo ν a' w' hn hT' hM'
          first | exact this | (rw [he] at this; exact this)
      all_goals
        have := this hpo ν a' w' hn hT' hM'
        first | exact this | (rw [he] at this; exact this)
  | loop c =>
    simp only [exCode] at h
    split at h
    · cases h
    · rename_i os hos
      have hw : wpL P c Q a w := by
        refine wpL_round (hcode _ _ _ _ hos μ w0 w a hT hM hp _ ?_).1
        intro o ho hpo ν a' w' hn hT' hM'
        obtain ⟨ys, hys, hsub⟩ := bindO_mem h _ ho
        have hQ' := (hQ.sub hsub).later hn
        cases he : o.ex <;> simp only [he] at hys
        case norm => exact (hcode _ _ _ _ hys (μ ++ ν) w0 w' a' hT' hM' hpo Q hQ').2 c rfl
        all_goals
          simp at hys; subst hys
          exact hQ' _ (List.mem_singleton.2 rfl) hpo [] a' w' New.nil (by simpa using hT') (by simpa using hM')
      exact ⟨wp_of_wpL hw, fun c' e => by cases e; exact hw⟩
  | _ => simp [exCode] at h

/-- Whatever the machine of unknowns says of a call is so. -/
theorem all_ok (htbl : TblOK Φ ρ P tbl) : ∀ fuel : Nat,
    (∀ o s pc outs, exOne P tbl fuel o s pc = some outs → OneOK Φ ρ P o s pc outs) ∧
    (∀ all rest s pc outs, exOps P tbl fuel all rest s pc = some outs → OpsOK Φ ρ P all rest s pc outs) ∧
    (∀ S all l s pc outs, exAny P tbl S fuel all l s pc = some outs → AnyOK Φ ρ P S all l s pc outs) ∧
    (∀ f vs m pc outs, exCall P tbl fuel f vs m pc = some outs → CallOK Φ ρ P f vs m pc outs) ∧
    (∀ c s pc outs, exCode P tbl fuel c s pc = some outs → CodeOK Φ ρ P c s pc outs)
  | 0 => ⟨fun _ _ _ _ h => by simp [exOne] at h, fun _ _ _ _ _ h => by simp [exOps] at h, fun _ _ _ _ _ _ h => by simp [exAny] at h,
      fun _ _ _ _ _ h => by simp [exCall] at h, fun _ _ _ _ h => by simp [exCode] at h⟩
  | fuel + 1 => by
    obtain ⟨h1, h2, h3, h4, h5⟩ := all_ok htbl fuel
    exact ⟨fun o s pc outs h => one_ok h4 h, fun all rest s pc outs h => ops_ok h1 h2 h, fun S all l s pc outs h => any_ok h1 h3 h,
      fun f vs m pc outs h => call_ok htbl h5 h, fun c s pc outs h => code_ok h2 h3 h5 h⟩
end
end Go.SE
