/- The machine of unknowns is right: regions in whatever order, calls, code; and the induction. -/
import Derived.Test.YtfngkeegfjihlaaSFSound2
namespace Go.SF
set_option linter.unusedVariables false
set_option linter.unusedSimpArgs false

section
variable {Φ : Sig} {ρ : Env} {μ ν : List Loc} {P : Program} {tbl : Tbl} {B : Base} {w : World} {s : St} {a : Act} {pc : List SB}

theorem unl_set {l : Array Bool} {i n : Nat} (h : l.getD i true = false) (hn : unl l ≤ n) : ∃ k, n = k + 1 ∧ unl (l.setIfInBounds i true) ≤ k := by
  have hi : i < l.size := by
    rcases Nat.lt_or_ge i l.size with h' | h'
    · exact h'
    · simp [Array.getD, Nat.not_lt.2 h'] at h
  have hv : l[i] = false := by simpa [Array.getD, hi] using h
  have hc : (l.toList.set i true).count false = l.toList.count false - 1 := by
    rw [List.count_set (by simpa using hi)]
    simp [hv]
  have hpos : 0 < l.toList.count false := List.count_pos_iff.2 (by
    rw [← hv]; simp)
  unfold unl at hn ⊢
  rw [Array.toList_setIfInBounds, hc]
  exact ⟨n - 1, by omega, by omega⟩

theorem static_spec {all : Array Oper} {l : Array Bool} {i : Nat} {o : Oper} (ho : all[i]? = some o) (h : staticFree all = true) (hr : i ∈ Region.ready .any all l) :
    ∀ j oj, all[j]? = some oj → j ≠ i → l.getD j true = false → (∀ e ∈ oj.after, Region.binds .any e = true → e.on ≠ i) → o.apart all oj = true := by
  intro j oj hoj hne hun hno
  have hi := (Array.getElem?_eq_some_iff.1 ho).1
  have hj := (Array.getElem?_eq_some_iff.1 hoj).1
  simp only [staticFree, List.all_eq_true, List.mem_range] at h
  have h1 := h i hi j hj
  simp only [ho, hoj, Bool.or_eq_true] at h1
  rcases h1 with h1 | (h1 | h1) | h1
  · exact absurd (Nat.eq_of_beq_eq_true h1).symm hne
  · obtain ⟨e, he, hb⟩ := Array.any_eq_true'.1 h1
    simp only [Bool.and_eq_true] at hb
    exact absurd (Nat.eq_of_beq_eq_true hb.2) (hno e he hb.1)
  · obtain ⟨e, he, hb⟩ := Array.any_eq_true'.1 h1
    simp only [Bool.and_eq_true] at hb
    obtain ⟨_, o', ho', hall⟩ := mem_ready.1 hr
    rw [ho] at ho'; cases ho'
    have h2 := hall e he hb.1
    rw [Nat.eq_of_beq_eq_true hb.2] at h2
    rcases Nat.lt_or_ge j l.size with h' | h'
    · simp [Array.getD, h'] at h2 hun; rw [h2] at hun; cases hun
    · simp [Array.getD, Nat.not_lt.2 h'] at h2
  · exact h1

theorem ready_of {all : Array Oper} {l : Array Bool} {i : Nat} (h : readyB all l i = true) : i ∈ Region.ready .any all l := by
  simp only [readyB, Bool.and_eq_true] at h
  simp only [Region.ready, List.mem_filter, List.mem_range, Bool.and_eq_true]
  exact ⟨by simpa [Nat.blt_eq] using h.1.1, h.1.2, h.2⟩

theorem any_ok {fuel : Nat} {S : List Nat} {st : Bool} (hone : ∀ o s pc outs, exOne P tbl fuel o s pc = some outs → OneOK Φ ρ P o s pc outs)
    (hany : ∀ (n0 n1 : Nat) (ρ' : Env), On n0 ρ n1 ρ' → ∀ S st all l todo s pc outs, exAny P tbl S st fuel all l todo s pc = some outs → AnyOK Φ ρ' P S st all l s pc outs) {all : Array Oper} {l : Array Bool} {todo : List Nat} {outs : List Out}
    (h : exAny P tbl S st (fuel + 1) all l todo s pc = some outs) : AnyOK Φ ρ P S st all l s pc outs := by
  intro hsel hst hc μ ν B w a hS hT hM hp Q hQn hQ n hn
  simp only [exAny] at h
  have hI := kept_ok hM hc hS
  have pick : ∀ i ∈ Region.ready .any all l, ∃ k, n = k + 1 ∧ unl (l.setIfInBounds i true) ≤ k := fun i hi => unl_set (mem_ready.1 hi).1 hn
  split at h
  · rename_i i o pc' v hfq
    have hfq' : ∀ is, firstQuiet P S st all l s pc is = some (i, o, pc', v) → all[i]? = some o ∧ readyB all l i = true ∧ (st || Region.free .any all l i) = true ∧ quietStep P S all s pc o = some (pc', v) := by
      intro is
      induction is with
      | nil => intro h; simp [firstQuiet] at h
      | cons j js ih =>
        intro h
        simp only [firstQuiet] at h
        split at h
        · rename_i oj hoj
          split at h
          · rename_i hfr
            rw [Bool.and_eq_true] at hfr
            split at h
            · rename_i p1 v1 hq1
              simp at h
              obtain ⟨rfl, rfl, rfl, rfl⟩ := h
              exact ⟨hoj, hfr.1, hfr.2, hq1⟩
            · exact ih h
          · exact ih h
        · exact ih h
    obtain ⟨ho, hrd, hfr, hq⟩ := hfq' _ hfq
    have hmem := ready_of hrd
    obtain ⟨k, rfl, hk⟩ := pick i hmem
    obtain ⟨hp', x, hd, hy⟩ := quiet_ok hq hT hM hp hc hS
    split at h
    · cases h
    · rename_i s' hs'
      obtain ⟨hT', hm'⟩ := put_ok (ν := []) hs' hT (by simpa using hd)
      have hrest := hany 0 0 ρ .refl S st all _ _ s' pc' outs h hsel hst (hm' ▸ hc) μ ν B w _ hS (by simpa using hT') (hm' ▸ hM) hp' Q hQn (hm' ▸ hQ) k hk
      refine anyG_first ho (Region.noSelect_spec hsel) k l a w ?_ hmem hy hrest
      rw [Bool.or_eq_true] at hfr
      rcases hfr with hfr | hfr
      · exact static_spec ho (hst hfr) hmem
      · exact Region.free_spec ho hfr
  · split at h
    · rename_i hr
      simp at h; subst h
      have hq : Q .norm a w := hQ.at (List.mem_singleton.2 rfl) rfl hp hT hM
      cases n with
      | zero => exact ⟨hI, hr, hq⟩
      | succ n => exact ⟨hI, fun _ => hq, fun i hi => by rw [hr] at hi; cases hi⟩
    · rename_i i0 is hr
      cases n with
      | zero =>
        obtain ⟨k, hk, _⟩ := pick i0 (by rw [hr]; simp)
        omega
      | succ k =>
        refine ⟨hI, fun h0 => (by rw [hr] at h0; cases h0), fun i hi => ?_⟩
        obtain ⟨k', hk', hku⟩ := pick i hi
        obtain rfl : k = k' := by omega
        rw [hr] at hi
        obtain ⟨us, hus, hsub⟩ := bindO_mem h _ hi
        have hQ1 := hQ.sub hsub
        split at hus
        · cases hus
        · rename_i o ho
          refine ⟨o, ho, ?_⟩
          split at hus
          · cases hus
          · rename_i ws hws
            obtain ⟨b, pc', hmem, hp', hb⟩ := wanted_ok hws hT hp
            obtain ⟨ys, hys, hsub1⟩ := bindO_mem hus _ hmem
            have hQ' := hQ1.sub hsub1
            rw [hb]
            cases b with
            | false =>
              simp only at hys
              split at hys
              · cases hys
              · rename_i s' hs'
                obtain ⟨hT', hm'⟩ := put_ok (ν := []) hs' hT (x := undef) undef_ok
                rw [if_neg (by simp)]
                exact hany 0 0 ρ .refl S st all _ _ s' pc' _ hys hsel hst (hm' ▸ hc) μ ν B w _ hS (by simpa using hT') (hm' ▸ hM) hp' Q hQn (hm' ▸ hQ') k hku
            | true =>
              simp only at hys
              split at hys
              · cases hys
              · rename_i outs1 ho1
                rw [if_pos rfl]
                refine hone _ _ _ _ ho1 (μ ++ ν) B w a hT hM hp' _ ?_
                intro y hy
                obtain ⟨zs, hzs, hsub2⟩ := bindO_mem hys _ hy
                obtain ⟨py, vy⟩ := y
                cases vy with
                | none =>
                  simp at hzs; subst hzs
                  exact (hQ' _ (hsub2 _ (List.mem_singleton.2 rfl))).1 rfl
                | some vm =>
                  obtain ⟨v, m⟩ := vm
                  intro ρ' hρ hpy ν' w' x hd hM'
                  simp only at hzs
                  split at hzs
                  · rename_i hcl
                    rw [Bool.and_eq_true] at hcl
                    split at hzs
                    · cases hzs
                    · rename_i s' hs'
                      obtain ⟨hT', hm'⟩ := put_ok hs' (keep_ok hcl.2 hρ hT) hd
                      rw [List.append_assoc] at hT' hM'
                      have hlater := ((hQ'.sub hsub2).later (ν := ν')).on hρ
                      rw [List.append_assoc] at hlater
                      exact hany _ _ ρ' hρ S st all _ _ s' py _ hzs hsel hst (hm' ▸ hcl.1) μ (ν ++ ν') B w' _ hS hT' (hm' ▸ hM') hpy Q hQn (hm' ▸ hlater) k hku
                  · cases hzs

theorem leave_ok {fn : Func} : ∀ {os : List Out} {outs : List (List SB × Option (AV × Mem))}, leave P fn os = some outs → ∀ o ∈ os, match o.ex with
    | .norm | .ret => ∃ vs v, resOf P o.st o.pc fn.results.toList = some vs ∧ resV vs = some v ∧ (o.pc, some (v, o.st.m)) ∈ outs
    | .panic => (o.pc, none) ∈ outs
    | .exit _ => False
  | [], outs, h, o, ho => by cases ho
  | o' :: os, outs, h, o, ho => by
    simp only [leave] at h
    split at h
    · cases h
    · rename_i l hl
      have ih := leave_ok hl
      rcases List.mem_cons.1 ho with rfl | ho
      · cases he : o.ex <;> simp only [he] at h ⊢
        case exit => cases h
        case panic => simp at h; subst h; simp
        all_goals
          split at h
          · cases h
          · rename_i vs hvs
            split at h
            · cases h
            · rename_i v hv
              simp at h; subst h
              exact ⟨vs, v, hvs, hv, by simp⟩
      · have := ih o ho
        have hsub : ∀ x ∈ l, x ∈ outs := by
          intro x hx
          cases he : o'.ex <;> simp only [he] at h
          case exit => cases h
          case panic => simp at h; subst h; simp [hx]
          all_goals
            split at h
            · cases h
            · split at h
              · cases h
              · simp at h; subst h; simp [hx]
        cases he : o.ex <;> simp only [he] at this ⊢
        case panic => exact hsub _ this
        all_goals
          obtain ⟨vs, v, h1, h2, h3⟩ := this
          exact ⟨vs, v, h1, h2, hsub _ h3⟩

theorem body_ok {fuel : Nat} (hcode : ∀ f c s pc outs, exCode P tbl fuel f c s pc = some outs → CodeOK Φ ρ P f c s pc outs)
    {f : Nat} {vs : List AV} {m : Mem} {outs : List (List SB × Option (AV × Mem))} (h : exBody P tbl fuel f vs m pc = some outs) : CallOK Φ ρ P f vs m pc outs := by
  unfold exBody at h
  split at h
  · cases h
  · rename_i fn hf
    split at h
    · cases h
    · rename_i body hb
      split at h
      · cases h
      · rename_i os hos
        intro μ B w xs hx hM hp R hR
        have hsub : ∀ x ∈ loopsOf body, x ∈ fLoops P f := by intro x hx; simp only [fLoops, hf, hb]; exact hx
        refine calls_of_wp hf hb ?_
        have hl := leave_ok h
        refine (hcode _ _ _ _ _ hos hsub μ B w _ (enter_ok hx fn.ntmps) hM hp _ ?_).1
        intro o ho
        have := hl o ho
        cases he : o.ex <;> simp only [he] at this
        case panic => exact ⟨fun _ => hR _ this, fun ρ' hρ hpo => absurd hpo (hR _ this ρ' hρ.ag)⟩
        all_goals
          obtain ⟨us, v, h1, h2, h3⟩ := this
          refine ⟨fun e => (by cases e), fun ρ' hρ hpo ν a' w' hT hM' => ?_⟩
          obtain ⟨x, hd, hrun⟩ := results_ok (s := o.st) hT hM' hpo h1 h2
          exact ⟨hT.df, x, hrun, x, rfl, hR _ h3 ρ' hρ hpo ν w' x hd hM'⟩
theorem call_ok {fuel : Nat} (htbl : TblOK Φ ρ P tbl) (hcode : ∀ f c s pc outs, exCode P tbl fuel f c s pc = some outs → CodeOK Φ ρ P f c s pc outs)
    {f : Nat} {vs : List AV} {m : Mem} {outs : List (List SB × Option (AV × Mem))} (h : exCall P tbl (fuel + 1) f vs m pc = some outs) : CallOK Φ ρ P f vs m pc outs := by
  simp only [exCall] at h
  split at h
  · rename_i outs' hg
    simp only [Option.bind_eq_some_iff] at hg
    obtain ⟨g, hg, hgo⟩ := hg
    simp at h; subst h
    exact htbl.fn f g hg vs m pc _ hgo
  · exact body_ok hcode h

theorem rebase0 {w' : World} (hM : MRel Φ ρ μ B s.m w) (he : w'.heap = w.heap) : MRel Φ ρ μ ⟨w', s.m.o.length⟩ { s.m with wr := [] } w' where
  len := hM.len
  kle := Nat.le_refl _
  apart := hM.apart
  obj := fun i o l ho hl => (hM.obj i o l ho hl).of_heap (fun b _ => by rw [he])
  lt := fun i o l ho ha hl b hb => by rw [he]; exact hM.lt i o l ho ha hl b hb
  fr := fun _ _ _ => rfl
  new := fun i l b hi hl _ => by
    have := (List.getElem?_eq_some_iff.1 hl).1
    rw [hM.len] at this
    simp at hi; omega
  wap := fun i j o li lj b hi => by cases hi
  sz := Nat.le_refl _
  os := ⟨rfl, rfl, rfl⟩

theorem aliveLe_ok : ∀ {os os' : List AObj} {j : Nat} {o : AObj}, aliveLe os os' = true → j < os.length → os'[j]? = some o → o.alive = true → ∃ o', os[j]? = some o' ∧ o'.alive = true
  | [], os', j, o, _, hj, _, _ => by simp at hj
  | x :: os, [], j, o, _, _, h, _ => by simp at h
  | x :: os, y :: os', 0, o, h, _, ho, ha => by
    simp at ho; subst ho
    simp only [aliveLe, Bool.and_eq_true, Bool.or_eq_true, Bool.not_eq_true'] at h
    rcases h.1 with h1 | h1
    · rw [h1] at ha; cases ha
    · exact ⟨x, rfl, h1⟩
  | x :: os, y :: os', j + 1, o, h, hj, ho, ha => by
    simp only [aliveLe, Bool.and_eq_true] at h
    simpa using aliveLe_ok h.2 (by simpa using hj) (by simpa using ho) ha

theorem rebase1 {ρ0 : Env} {m0 m1 : Mem} {wR wR' w1 : World} (hM : MRel Φ ρ0 μ B m0 wR) (hM1 : MRel Φ ρ (μ ++ ν) ⟨wR', m0.o.length⟩ m1 w1) (hh : wR'.heap = wR.heap) (hos : wR'.os = wR.os ∧ wR'.tape = wR.tape ∧ wR'.output = wR.output)
    (hle : aliveLe m0.o m1.o = true) : MRel Φ ρ (μ ++ ν) B { m1 with wr := m1.wr ++ m0.wr } w1 where
  len := hM1.len
  kle := Nat.le_trans hM.kle hM1.kle
  apart := hM1.apart
  obj := hM1.obj
  lt := hM1.lt
  fr := fun b hb hne => by
    have hbR : b < wR.heap.size := Nat.lt_of_lt_of_le hb hM.sz
    have old : ∀ (i : Nat) (l : Loc), i ∈ m0.wr → i < B.k → μ[i]? = some l → b ∉ l.own := fun i l hi hk hl => hne i l (List.mem_append.2 (.inr hi)) hk (get_app hl)
    rw [hM1.fr b (by rw [hh]; exact hbR) (fun i l hi hk hl hbl => ?_), hh]
    · exact hM.fr b hb old
    · by_cases hik : i < B.k
      · exact hne i l (List.mem_append.2 (.inl hi)) hik hl hbl
      · have hil : i < μ.length := by rw [hM.len]; exact hk
        rw [List.getElem?_append_left hil] at hl
        rcases hM.new i l b (Nat.le_of_not_lt hik) hl hbl with h1 | ⟨j, lj, h1, h2, h3, h4⟩
        · omega
        · exact old j lj h1 h2 h3 h4
  new := fun i l b hi hl hb => by
    by_cases hil : i < μ.length
    · rw [List.getElem?_append_left hil] at hl
      rcases hM.new i l b hi hl hb with h1 | ⟨j, lj, h1, h2, h3, h4⟩
      · exact .inl h1
      · exact .inr ⟨j, lj, List.mem_append.2 (.inr h1), h2, get_app h3, h4⟩
    · rcases hM1.new i l b (by rw [← hM.len]; exact Nat.le_of_not_lt hil) hl hb with h1 | ⟨j, lj, h1, h2, h3, h4⟩
      · rw [hh] at h1; exact .inl (Nat.le_trans hM.sz h1)
      · by_cases hjk : j < B.k
        · exact .inr ⟨j, lj, List.mem_append.2 (.inl h1), hjk, h3, h4⟩
        · have hjl : j < μ.length := by rw [hM.len]; exact h2
          rw [List.getElem?_append_left hjl] at h3
          rcases hM.new j lj b (Nat.le_of_not_lt hjk) h3 h4 with h5 | ⟨j', lj', h5, h6, h7, h8⟩
          · exact .inl h5
          · exact .inr ⟨j', lj', List.mem_append.2 (.inr h5), h6, get_app h7, h8⟩
  wap := fun i j o li lj b hi hik hjk hj ho ha hli hlj hbi => by
    have hj1 : j ∉ m1.wr := fun h => hj (List.mem_append.2 (.inl h))
    have hj0 : j ∉ m0.wr := fun h => hj (List.mem_append.2 (.inr h))
    have hkl := hM.kle
    rcases List.mem_append.1 hi with hi | hi
    · exact hM1.wap i j o li lj b hi (by simp only; omega) (by simp only; omega) hj1 ho ha hli hlj hbi
    · have hil : i < μ.length := by rw [hM.len]; omega
      have hjl : j < μ.length := by rw [hM.len]; omega
      rw [List.getElem?_append_left hil] at hli
      rw [List.getElem?_append_left hjl] at hlj
      obtain ⟨o', ho', ha'⟩ := aliveLe_ok hle (by rw [← hM.len]; exact hjl) ho ha
      exact hM.wap i j o' li lj b hi hik hjk hj0 ho' ha' hli hlj hbi
  sz := Nat.le_trans hM.sz (hh ▸ hM1.sz)
  os := ⟨hM1.os.1.trans (hos.1.trans hM.os.1), hM1.os.2.1.trans (hos.2.1.trans hM.os.2.1), hM1.os.2.2.trans (hos.2.2.trans hM.os.2.2)⟩

theorem covers_ok {pc1 pc2 : List SB} {s1 s2 : St} (h : covers pc1 s1 pc2 s2 = true) (hp : holds Φ ρ pc2) (hT : TRel Φ ρ μ s2.n s2.t a) (hM : MRel Φ ρ μ B s2.m w) :
    holds Φ ρ pc1 ∧ TRel Φ ρ μ s1.n s1.t a ∧ MRel Φ ρ μ B s1.m w := by
  simp only [covers, Bool.and_eq_true, List.all_eq_true] at h
  obtain ⟨⟨⟨⟨⟨⟨h1, h0⟩, h2⟩, h3⟩, h4⟩, h5⟩, h6⟩ := h
  have h1 := Nat.eq_of_beq_eq_true h1
  have h2 := sameOs_eq h2
  have h3 : ∀ i ∈ s1.m.wr, i ∈ s2.m.wr := fun i hi => by simpa using h3 i hi
  have h4 : ∀ i ∈ s2.m.wr, i ∈ s1.m.wr := fun i hi => by simpa using h4 i hi
  refine ⟨fun x hx => ?_, ⟨by rw [h1]; exact hT.sz, fun u v hv => ?_, hT.df⟩, ?_⟩
  · obtain ⟨y, hy, hs⟩ := List.any_eq_true.1 (h5 x hx)
    rw [SB.same_eq _ _ hs]; exact hp y hy
  · have hmem : ∀ (t : List (Nat × AV)), get u t = some v → ∃ y, (u, y) ∈ t := by
      intro t
      induction t with
      | nil => intro h; simp [get] at h
      | cons x t ih =>
        obtain ⟨k, y⟩ := x
        intro h
        simp only [get] at h
        split at h
        · rename_i e
          have e := Nat.eq_of_beq_eq_true e
          subst e; exact ⟨y, List.mem_cons_self ..⟩
        · obtain ⟨z, hz⟩ := ih h; exact ⟨z, List.mem_cons_of_mem _ hz⟩
    obtain ⟨y, hy⟩ := hmem _ hv
    have := h6 _ hy
    simp only [hv] at this
    split at this
    · rename_i v' u' hv' hu'
      cases hu'
      rw [AV.sameT_eq this]
      exact hT.tm u v' hv'
    · cases this
  · have e1 : s1.m = ⟨s2.m.o, s1.m.wr, s1.m.nx⟩ := by rw [← h2]
    rw [e1]
    constructor
    · exact hM.len
    · exact hM.kle
    · exact hM.apart
    · exact hM.obj
    · exact hM.lt
    · exact fun b hb hn => hM.fr b hb fun i l hi => hn i l (h4 i hi)
    · intro i l b hi hl hb
      rcases hM.new i l b hi hl hb with h | ⟨j, lj, g1, g2⟩
      · exact .inl h
      · exact .inr ⟨j, lj, h4 j g1, g2⟩
    · exact fun i j o li lj b hi hik hjk hj => hM.wap i j o li lj b (h3 i hi) hik hjk (fun e => hj (h4 j e))
    · exact hM.sz
    · exact hM.os

theorem covers_nx {pc1 pc2 : List SB} {s1 s2 : St} (h : covers pc1 s1 pc2 s2 = true) : s1.m.nx = s2.m.nx := by
  simp only [covers, Bool.and_eq_true] at h
  exact Nat.eq_of_beq_eq_true h.1.1.1.1.1.2
theorem dedup_sub : ∀ {os : List Out} {o : Out}, o ∈ dedup os → o ∈ os
  | [], o, h => h
  | x :: r, o, h => by
    simp only [dedup] at h
    split at h
    · exact List.mem_cons_of_mem _ (dedup_sub h)
    · rcases List.mem_cons.1 h with rfl | h
      · exact List.mem_cons_self ..
      · exact List.mem_cons_of_mem _ (dedup_sub h)
theorem dedup_ok : ∀ {os : List Out} {o : Out}, o ∈ os → o ∈ dedup os ∨ ∃ x ∈ dedup os, x.ex = .norm ∧ o.ex = .norm ∧ covers x.pc x.st o.pc o.st = true
  | [], o, h => by cases h
  | x :: r, o, h => by
    rcases List.mem_cons.1 h with rfl | h
    · simp only [dedup]
      split
      · rename_i hc
        obtain ⟨y, hy, hs⟩ := List.any_eq_true.1 hc
        simp only [Bool.and_eq_true] at hs
        refine .inr ⟨y, hy, ?_, ?_, hs.2⟩
        · have h1 := hs.1.1
          unfold isNorm at h1
          split at h1 <;> simp_all
        · have h1 := hs.1.2
          unfold isNorm at h1
          split at h1 <;> simp_all
      · exact .inl (List.mem_cons_self ..)
    · have := dedup_ok h
      simp only [dedup]
      split
      · exact this
      · rcases this with h | ⟨y, hy, h⟩
        · exact .inl (List.mem_cons_of_mem _ h)
        · exact .inr ⟨y, List.mem_cons_of_mem _ hy, h⟩

theorem code_ok {fuel : Nat} (htbl : TblOK Φ ρ P tbl) (hops : ∀ all rest s pc outs, exOps P tbl fuel all rest s pc = some outs → OpsOK Φ ρ P all rest s pc outs)
    (hany : ∀ S st all l todo s pc outs, exAny P tbl S st fuel all l todo s pc = some outs → AnyOK Φ ρ P S st all l s pc outs)
    (hcode : ∀ (n0 n1 : Nat) (ρ' : Env), On n0 ρ n1 ρ' → ∀ f c s pc outs, exCode P tbl fuel f c s pc = some outs → CodeOK Φ ρ' P f c s pc outs) {f : Nat} {c : Code} {outs : List Out} (h : exCode P tbl (fuel + 1) f c s pc = some outs) : CodeOK Φ ρ P f c s pc outs := by
  intro hl0 μ B w a hT hM hp Q hQ
  have here : ∀ {ex : Ex}, outs = [⟨pc, ex, s⟩] → toQ Q ex a w := fun he => by
    subst he
    exact hQ.at (List.mem_singleton.2 rfl) rfl hp hT hM
  cases c with
  | skip => simp only [exCode, Option.some.injEq] at h; exact ⟨wp_skip (here h.symm), fun _ e => by cases e⟩
  | exit id => simp only [exCode, Option.some.injEq] at h; exact ⟨wp_exit (here h.symm), fun _ e => by cases e⟩
  | ret => simp only [exCode, Option.some.injEq] at h; exact ⟨wp_ret (here h.symm), fun _ e => by cases e⟩
  | region id ops draw =>
    refine ⟨?_, fun _ e => by cases e⟩
    cases draw with
    | false => simp only [exCode] at h; exact wp_region_I (by rw [List.range_eq_range', ← Array.length_toList]; exact hops _ _ _ _ _ h μ B w a hT hM hp Q hQ [] rfl)
    | true =>
      simp only [exCode] at h
      split at h
      · rename_i hcond
        simp only [Bool.and_eq_true] at hcond
        split at h
        · cases h
        · rename_i pre hpre
          split at h
          · cases h
          · rename_i os hos
            split at h
            · cases h
            · rename_i hle
              simp at h; subst h
              simp only [Bool.not_eq_false, List.all_eq_true] at hle
              refine wp_region_any hcond.2 ?_
              have hb := rebase0 (w' := { w with drawn := w.drawn + 1 }) hM rfl
              have halive : ∀ i, aliveAt s.m i = true → ∃ o l, s.m.o[i]? = some o ∧ o.alive = true ∧ μ[i]? = some l := by
                intro i hi
                unfold aliveAt at hi
                split at hi
                · rename_i o ho
                  have hlt : i < μ.length := by rw [hM.len]; exact (List.getElem?_eq_some_iff.1 ho).1
                  exact ⟨o, _, ho, hi, List.getElem?_eq_getElem hlt⟩
                · cases hi
              refine wpAny_of_anyG (fun _ _ h => h) _ _ _ _ (hany _ _ _ _ _ _ _ _ hos hcond.1 (fun h => h) ?_ μ [] ⟨{ w with drawn := w.drawn + 1 }, s.m.o.length⟩ { w with drawn := w.drawn + 1 } a ?_ (by simpa using hT) (by simpa using hb) hp
                (toQ Q) (fun _ _ h => h) ?_ ops.size ?_)
              · unfold clean
                rw [Bool.and_eq_true]
                refine ⟨rfl, List.all_eq_true.2 fun i hi => ?_⟩
                have := (List.mem_filter.1 hi).2
                simp only [Bool.and_eq_true] at this
                exact this.2
              · intro i hi
                have h1 := (List.mem_filter.1 hi).1
                have := (List.mem_filter.1 hi).2
                simp only [Bool.and_eq_true] at this
                obtain ⟨o, l, ho, ha, hl⟩ := halive i this.2
                exact ⟨by simpa using h1, l, hl, hM.lt i o l ho ha hl⟩
              · intro o ho
                rcases dedup_ok ho with hd | ⟨x, hx, hxe, hoe, hcov⟩
                · refine ⟨(hQ _ (List.mem_map_of_mem hd)).1, fun ρ' hρ hpo ν a' w' hT' hM' => ?_⟩
                  simp only [List.append_nil] at hT' hM'
                  exact (hQ _ (List.mem_map_of_mem hd)).2 ρ' hρ hpo ν a' w' hT' (rebase1 hM hM' rfl ⟨rfl, rfl, rfl⟩ (hle o ho))
                · refine ⟨fun e => (by rw [hoe] at e; cases e), fun ρ' hρ hpo ν a' w' hT' hM' => ?_⟩
                  simp only [List.append_nil] at hT' hM'
                  obtain ⟨g1, g2, g3⟩ := covers_ok hcov hpo hT' hM'
                  have := (hQ _ (List.mem_map_of_mem hx)).2 ρ' (by simp only [covers_nx hcov]; exact hρ) g1 ν a' w' g2 (rebase1 hM g3 rfl ⟨rfl, rfl, rfl⟩ (hle x (dedup_sub hx)))
                  simp only [hxe] at this
                  rw [hoe]
                  exact this
              · unfold unl
                refine Nat.le_trans List.count_le_length ?_
                simp
      · cases h
  | seq x y =>
    refine ⟨?_, fun _ e => by cases e⟩
    simp only [exCode] at h
    split at h
    · cases h
    · rename_i os hos
      refine wp_seq (hcode 0 0 ρ .refl _ _ _ _ _ hos (fun z hz => hl0 z (by simp [loopsOf, hz])) μ B w a hT hM hp _ ?_).1
      intro o ho
      obtain ⟨ys, hys, hsub⟩ := bindO_mem h _ ho
      cases he : o.ex <;> simp only [he] at hys
      case norm => exact ⟨fun e => (by cases e), fun ρ' hρ hpo ν a' w' hT' hM' => (hcode _ _ ρ' hρ _ _ _ _ _ hys (fun z hz => hl0 z (by simp [loopsOf, hz])) (μ ++ ν) B w' a' hT' hM' hpo Q ((hQ.sub hsub).later.on hρ)).1⟩
      case panic =>
        simp at hys; subst hys
        exact ⟨fun _ => (hQ.sub hsub _ (List.mem_singleton.2 rfl)).1 rfl, fun ρ' hρ hpo => absurd hpo ((hQ.sub hsub _ (List.mem_singleton.2 rfl)).1 rfl ρ' hρ.ag)⟩
      all_goals
        simp at hys; subst hys
        exact ⟨fun e => (by cases e), fun ρ' hρ hpo ν a' w' hT' hM' => (hQ.sub hsub _ (List.mem_singleton.2 rfl)).2 ρ' hρ hpo ν a' w' hT' hM'⟩
  | cond x c1 c2 =>
    refine ⟨?_, fun _ e => by cases e⟩
    simp only [exCode] at h
    split at h
    · rename_i outs' hg
      simp only [Option.bind_eq_some_iff] at hg
      obtain ⟨g, ⟨id, hid, hg⟩, hgo⟩ := hg
      simp at h; subst h
      exact htbl.lp f id g hg _ (hl0 _ (by simp [loopsOf])) hid s pc _ hgo μ B w a hT hM hp Q hQ
    split at h
    · rename_i b hb
      obtain ⟨t, pc', hmem, hev, hp'⟩ := ways_ok Φ ρ b hp
      obtain ⟨ys, hys, hsub⟩ := bindO_mem h _ hmem
      have hv := opnd_ok hT hb
      simp only [den, denC, hev, Option.some.injEq] at hv
      refine wp_cond hv.symm (hcode 0 0 ρ .refl _ _ _ _ _ hys (fun z hz => hl0 z ?_) μ B w a hT hM hp' Q (hQ.sub hsub)).1
      cases t <;> simp_all [loopsOf]
    · cases h
  | block id c =>
    refine ⟨?_, fun _ e => by cases e⟩
    simp only [exCode] at h
    split at h
    · rename_i outs' hg
      simp only [Option.bind_eq_some_iff] at hg
      obtain ⟨g, ⟨id, hid, hg⟩, hgo⟩ := hg
      simp at h; subst h
      exact htbl.lp f id g hg _ (hl0 _ (by simp [loopsOf])) hid s pc _ hgo μ B w a hT hM hp Q hQ
    split at h
    · cases h
    · rename_i os hos
      simp at h; subst h
      refine wp_block (hcode 0 0 ρ .refl _ _ _ _ _ hos (fun z hz => hl0 z (by simp [loopsOf, hz])) μ B w a hT hM hp _ ?_).1
      intro o ho
      have := hQ _ (List.mem_map_of_mem ho)
      cases he : o.ex <;> simp only [he] at this
      case panic => exact ⟨fun _ => this.1 trivial, fun ρ' hρ hpo => absurd hpo (this.1 trivial ρ' hρ.ag)⟩
      case exit i =>
        refine ⟨fun e => (by cases e), fun ρ' hρ hpo ν a' w' hT' hM' => ?_⟩
        simp only [toQ, Exit.inBlock]
        split
        · rename_i hid
          rw [if_pos hid] at this
          exact this.2 ρ' hρ hpo ν a' w' hT' hM'
        · rename_i hid
          rw [if_neg hid] at this
          have := this.2 ρ' hρ hpo ν a' w' hT' hM'
          first | exact this | (rw [he] at this; exact this)
      all_goals
        refine ⟨fun e => (by cases e), fun ρ' hρ hpo ν a' w' hT' hM' => ?_⟩
        have := this.2 ρ' hρ hpo ν a' w' hT' hM'
        first | exact this | (rw [he] at this; exact this)
  | loop c =>
    have hin : c ∈ fLoops P f := hl0 c (by simp [loopsOf])
    simp only [exCode] at h
    split at h
    · rename_i outs' hg
      split at hg
      · cases hg
      rename_i hpart
      simp only [Option.bind_eq_some_iff] at hg
      obtain ⟨g, ⟨id, hid, hg⟩, hgo⟩ := hg
      simp at h; subst h
      have hw := htbl.lp f id g hg c hin hid s pc _ hgo μ B w a hT hM hp Q hQ
      rw [Bool.not_eq_true] at hpart
      rw [hpart] at hw
      have hw : wpL P c Q a w := hw
      exact ⟨wp_of_wpL hw, fun c' e => by cases e; exact hw⟩
    · split at h
      · cases h
      · rename_i os hos
        have hw : wpL P c Q a w := by
          refine wpL_round (hcode 0 0 ρ .refl _ _ _ _ _ hos (fun z hz => hl0 z (by simp [loopsOf, hz])) μ B w a hT hM hp _ ?_).1
          intro o ho
          obtain ⟨ys, hys, hsub⟩ := bindO_mem h _ ho
          cases he : o.ex <;> simp only [he] at hys
          case norm => exact ⟨fun e => (by cases e), fun ρ' hρ hpo ν a' w' hT' hM' => (hcode _ _ ρ' hρ _ _ _ _ _ hys hl0 (μ ++ ν) B w' a' hT' hM' hpo Q ((hQ.sub hsub).later.on hρ)).2 c rfl⟩
          case panic =>
            simp at hys; subst hys
            exact ⟨fun _ => (hQ.sub hsub _ (List.mem_singleton.2 rfl)).1 rfl, fun ρ' hρ hpo => absurd hpo ((hQ.sub hsub _ (List.mem_singleton.2 rfl)).1 rfl ρ' hρ.ag)⟩
          all_goals
            simp at hys; subst hys
            exact ⟨fun e => (by cases e), fun ρ' hρ hpo ν a' w' hT' hM' => (hQ.sub hsub _ (List.mem_singleton.2 rfl)).2 ρ' hρ hpo ν a' w' hT' hM'⟩
        exact ⟨wp_of_wpL hw, fun c' e => by cases e; exact hw⟩
  | _ => simp [exCode] at h

/-- What the machine of unknowns says, at a depth, is so. -/
structure AtFuel (Φ : Sig) (P : Program) (tbl : Tbl) (fuel : Nat) (ρ : Env) : Prop where
  one : ∀ o s pc outs, exOne P tbl fuel o s pc = some outs → OneOK Φ ρ P o s pc outs
  ops : ∀ all rest s pc outs, exOps P tbl fuel all rest s pc = some outs → OpsOK Φ ρ P all rest s pc outs
  any : ∀ S st all l todo s pc outs, exAny P tbl S st fuel all l todo s pc = some outs → AnyOK Φ ρ P S st all l s pc outs
  call : ∀ f vs m pc outs, exCall P tbl fuel f vs m pc = some outs → CallOK Φ ρ P f vs m pc outs
  code : ∀ f c s pc outs, exCode P tbl fuel f c s pc = some outs → CodeOK Φ ρ P f c s pc outs
/-- Whatever the machine of unknowns says of a call, or of a text, is so. -/
theorem all_ok {R : Env → Prop} (hR : ∀ (n0 n1 : Nat) (ρ ρ' : Env), R ρ → On n0 ρ n1 ρ' → R ρ') (htbl : ∀ ρ, R ρ → TblOK Φ ρ P tbl) : ∀ (fuel : Nat) (ρ : Env), R ρ → AtFuel Φ P tbl fuel ρ
  | 0, ρ, _ => ⟨fun _ _ _ _ h => by simp [exOne] at h, fun _ _ _ _ _ h => by simp [exOps] at h, fun _ _ _ _ _ _ _ _ h => by simp [exAny] at h,
      fun _ _ _ _ _ h => by simp [exCall] at h, fun _ _ _ _ _ h => by simp [exCode] at h⟩
  | fuel + 1, ρ, hρ => by
    have ih := all_ok hR htbl fuel
    have h0 := ih ρ hρ
    exact ⟨fun o s pc outs h => one_ok h0.call h, fun all rest s pc outs h => ops_ok h0.one (fun n0 n1 ρ' h' => (ih ρ' (hR n0 n1 ρ ρ' hρ h')).ops) h,
      fun S st all l todo s pc outs h => any_ok h0.one (fun n0 n1 ρ' h' => (ih ρ' (hR n0 n1 ρ ρ' hρ h')).any) h,
      fun f vs m pc outs h => call_ok (htbl ρ hρ) h0.code h, fun f c s pc outs h => code_ok (htbl ρ hρ) h0.ops h0.any (fun n0 n1 ρ' h' => (ih ρ' (hR n0 n1 ρ ρ' hρ h')).code) h⟩
end
end Go.SF
