/- Layer 27 (belief): Do, whatever it is given, by the program. No condition. -/
import Derived.Test.YtgfmjmfphmjdkaaDoorR2BB
import Derived.Test.YtgfmjmfphmjdkaaDoorR2AQ
namespace Go.Proofs.YtgfmjmfphmjdkaaDoor
set_option linter.unusedSimpArgs false
set_option linter.unusedVariables false
set_option linter.unusedSectionVars false
set_option maxHeartbeats 4000000
open Go Go.RowKit
set_option maxRecDepth 100000
variable {T0 : Gh} [TabS T0]
attribute [local irreducible] thenA inBlockA AW AL AO QY varO rowO rsA Opd OpdN vA gvA tupA aggA slA slcA ipA rpA EqK LnK IxK LdK FaK FdK
theorem f_beDoGo {w h : Int} {l : List Guess} {x y : Int} {b s : Bool} (h1 : okBe w h l x y b s = true) (a d : Int) (ha : 0 ≤ a ∧ a < 24) (hd : 0 ≤ d ∧ d < 80) : DoAF T0 w h l x y b s (2, a, d, 0) (inM d (w - 1)) (inM a (h - 1)) false l := by
  have c1 : AP Tryd.prog T0 21 [belA w h l x y b s] (B true) := (f_beIs w h l x y b s).to (by rw [h1])
  have c2 : AP Tryd.prog T0 22 [aggA [I 2, I a, I d, R 0]] (B true) := (f_vtIs (2, a, d, 0)).to (by rw [go_ok2 ha hd])
  have c3 : True := trivial
  have c4 : AP Tryd.prog T0 23 [I 2] (B false) := (f_changes 2).to (by rfl)
  show AF _ _ _ [_, aggA [I 2, I a, I d, R 0]] _ _
  cases s with
  | true =>
    obtain ⟨hw, hx, hl, hl2, hm, hg, hl3⟩ := be_facts h1
    have co := f_beOwn (T0 := T0) w h l x y b true (by omega)
    refine af_intro Tryd.func8 rfl (by decide) Tryd.ntmps8 rfl ?_
    repeat' (first
    | (apply al_call0 rfl rfl rfl rfl (c := co)
       case ha => exact os_
       rintro _ _ ⟨u, rfl, rfl⟩; refine al_rowc (List.Mem.head _) fun hu1 hu2 => ?_)
    | refine g36_ ?_
      | refine s_op ?_ (hy := by first | (apply ay_nilp rfl; exact oo_; done) | (apply ay_nilp rfl; exact oog_; done)
                                         | (apply ay_maxi rfl; exact oo_; exact oo_) | (apply ay_mini rfl; exact oo_; exact oo_) | fail)
    | refine g37_ ?_
      | refine s_opg ?_ (hy := by intro hk hk2; first | (apply ay_nilp rfl; exact oo_; done) | (apply ay_nilp rfl; exact oog_; done)
                                                        | (apply ay_maxi rfl; exact oo_; exact oo_) | (apply ay_mini rfl; exact oo_; exact oo_) | fail)
    | refine sw_ ?_ | (refine aw_if ?_ ?_ <;> intro hb <;> try exact no_) | (refine sx_ ?_ <;> intro bb) | (refine su_ ?_ <;> intro u hu1 hu2) | fail)
    all_goals first | (exfalso; simp at hb; done) | exact ⟨_, [gsO u _], rl_, sl_, u, rfl, rfl⟩ | skip
  | false =>
    obtain ⟨w', h', e1, e2, w2, w3, w4, w5, hl, hk, p1, p2⟩ := okBe_iff.1 h1
    obtain ⟨rfl, rfl, rfl⟩ := p2 rfl
    have := side_leB w3 w5
    have co := f_beOwn (T0 := T0) w h l 0 0 false false (by omega)
    have hm : 0 * w = 0 := Int.zero_mul w
    refine af_intro Tryd.func8 rfl (by decide) Tryd.ntmps8 rfl ?_
    repeat' (first
    | (apply al_call0 rfl rfl rfl rfl (c := co)
       case ha => exact os_
       rintro _ _ ⟨u, rfl, rfl⟩; refine al_rowc (List.Mem.head _) fun hu1 hu2 => ?_)
    | refine g36_ ?_
      | refine s_op ?_ (hy := by first | (apply ay_nilp rfl; exact oo_; done) | (apply ay_nilp rfl; exact oog_; done)
                                         | (apply ay_maxi rfl; exact oo_; exact oo_) | (apply ay_mini rfl; exact oo_; exact oo_) | fail)
    | refine g37_ ?_
      | refine s_opg ?_ (hy := by intro hk hk2; first | (apply ay_nilp rfl; exact oo_; done) | (apply ay_nilp rfl; exact oog_; done)
                                                        | (apply ay_maxi rfl; exact oo_; exact oo_) | (apply ay_mini rfl; exact oo_; exact oo_) | fail)
    | refine sw_ ?_ | (refine aw_if ?_ ?_ <;> intro hb <;> try exact no_) | (refine sx_ ?_ <;> intro bb) | (refine su_ ?_ <;> intro u hu1 hu2) | fail)
    all_goals first | (exfalso; simp at hb; done) | exact ⟨_, [gsO u _], rl_, sl_, u, rfl, rfl⟩ | skip
theorem f_beDo (w h : Int) (l : List Guess) (x y : Int) (b s : Bool) (c : Cmd) : AP Tryd.prog T0 8 [belA w h l x y b s, cmdA c] (tupA [blA (doB (w, h, l, x, y, b, s) c).1, I (doB (w, h, l, x, y, b, s) c).2]) := by
  have co : True := trivial
  by_cases hh : okBe w h l x y b s = true ∧ isCmd c = true
  · obtain ⟨hok, hc⟩ := hh
    have c1 : AP Tryd.prog T0 21 [belA w h l x y b s] (B true) := (f_beIs w h l x y b s).to (by rw [hok])
    have c2 : AP Tryd.prog T0 22 [cmdA c] (B true) := (f_vtIs c).to (by rw [hc])
    by_cases q1 : s = false ∧ chg c.1 = true
    · have e : doB (w, h, l, x, y, b, s) c = newB w h := by unfold doB; rw [if_pos ⟨hok, hc⟩, if_pos q1]
      rw [e]
      obtain ⟨rfl, q1⟩ := q1
      have c3 := f_beNew (T0 := T0) w h
      have c4 : AP Tryd.prog T0 23 [I c.1] (B true) := (f_changes c.1).to (by rw [q1])
      generalize newB w h = z at *
      obtain ⟨⟨z1, z2, z3, z4, z5, z6, z7⟩, z8⟩ := z
      obtain ⟨k, a, d, r⟩ := c
      refine af_intro Tryd.func8 rfl (by decide) Tryd.ntmps8 rfl ?_
      repeat' (first
      | (apply al_call0 rfl rfl rfl rfl (c := co)
         case ha => exact os_
         rintro _ _ ⟨u, rfl, rfl⟩; refine al_rowc (List.Mem.head _) fun hu1 hu2 => ?_)
      | refine g36_ ?_
        | refine s_op ?_ (hy := by first | (apply ay_nilp rfl; exact oo_; done) | (apply ay_nilp rfl; exact oog_; done)
                                           | (apply ay_maxi rfl; exact oo_; exact oo_) | (apply ay_mini rfl; exact oo_; exact oo_) | fail)
      | refine g37_ ?_
        | refine s_opg ?_ (hy := by intro hk hk2; first | (apply ay_nilp rfl; exact oo_; done) | (apply ay_nilp rfl; exact oog_; done)
                                                          | (apply ay_maxi rfl; exact oo_; exact oo_) | (apply ay_mini rfl; exact oo_; exact oo_) | fail)
      | refine sw_ ?_ | (refine aw_if ?_ ?_ <;> intro hb <;> try exact no_) | (refine sx_ ?_ <;> intro bb) | (refine su_ ?_ <;> intro u hu1 hu2) | fail)
      all_goals first | exact e5_ | skip
    · have c3 : True := trivial
      by_cases q2 : (s = false ∧ c.1 ≠ 2) ∨ c.1 = 12
      · have e : doB (w, h, l, x, y, b, s) c = ((w, h, l, x, y, b, s), 0) := by unfold doB; rw [if_pos ⟨hok, hc⟩, if_neg q1, if_pos q2]
        rw [e]
        have c4 : AP Tryd.prog T0 23 [I c.1] (B (chg c.1)) := f_changes c.1
        obtain ⟨k, a, d, r⟩ := c
        simp only at q1 q2 c4
        cases s with
        | true =>
          have q3 : k = 12 := by simpa using q2
          subst q3
          refine af_intro Tryd.func8 rfl (by decide) Tryd.ntmps8 rfl ?_
          repeat' (first
          | (apply al_call0 rfl rfl rfl rfl (c := co)
             case ha => exact os_
             rintro _ _ ⟨u, rfl, rfl⟩; refine al_rowc (List.Mem.head _) fun hu1 hu2 => ?_)
          | refine g36_ ?_
            | refine s_op ?_ (hy := by first | (apply ay_nilp rfl; exact oo_; done) | (apply ay_nilp rfl; exact oog_; done)
                                               | (apply ay_maxi rfl; exact oo_; exact oo_) | (apply ay_mini rfl; exact oo_; exact oo_) | fail)
          | refine g37_ ?_
            | refine s_opg ?_ (hy := by intro hk hk2; first | (apply ay_nilp rfl; exact oo_; done) | (apply ay_nilp rfl; exact oog_; done)
                                                              | (apply ay_maxi rfl; exact oo_; exact oo_) | (apply ay_mini rfl; exact oo_; exact oo_) | fail)
          | refine sw_ ?_ | (refine aw_if ?_ ?_ <;> intro hb <;> try exact no_) | (refine sx_ ?_ <;> intro bb) | (refine su_ ?_ <;> intro u hu1 hu2) | fail)
          all_goals first | exact e5_ | skip
        | false =>
          have q3 : chg k = false := by simpa using q1
          rw [q3] at c4
          by_cases q4 : k = 12
          · subst q4
            refine af_intro Tryd.func8 rfl (by decide) Tryd.ntmps8 rfl ?_
            repeat' (first
            | (apply al_call0 rfl rfl rfl rfl (c := co)
               case ha => exact os_
               rintro _ _ ⟨u, rfl, rfl⟩; refine al_rowc (List.Mem.head _) fun hu1 hu2 => ?_)
            | refine g36_ ?_
              | refine s_op ?_ (hy := by first | (apply ay_nilp rfl; exact oo_; done) | (apply ay_nilp rfl; exact oog_; done)
                                                 | (apply ay_maxi rfl; exact oo_; exact oo_) | (apply ay_mini rfl; exact oo_; exact oo_) | fail)
            | refine g37_ ?_
              | refine s_opg ?_ (hy := by intro hk hk2; first | (apply ay_nilp rfl; exact oo_; done) | (apply ay_nilp rfl; exact oog_; done)
                                                                | (apply ay_maxi rfl; exact oo_; exact oo_) | (apply ay_mini rfl; exact oo_; exact oo_) | fail)
            | refine sw_ ?_ | (refine aw_if ?_ ?_ <;> intro hb <;> try exact no_) | (refine sx_ ?_ <;> intro bb) | (refine su_ ?_ <;> intro u hu1 hu2) | fail)
            all_goals first | exact e5_ | skip
          · have q5 : k ≠ 2 := by rcases q2 with q | q; exact q.2; exact absurd q q4
            refine af_intro Tryd.func8 rfl (by decide) Tryd.ntmps8 rfl ?_
            repeat' (first
            | (apply al_call0 rfl rfl rfl rfl (c := co)
               case ha => exact os_
               rintro _ _ ⟨u, rfl, rfl⟩; refine al_rowc (List.Mem.head _) fun hu1 hu2 => ?_)
            | refine g36_ ?_
              | refine s_op ?_ (hy := by first | (apply ay_nilp rfl; exact oo_; done) | (apply ay_nilp rfl; exact oog_; done)
                                                 | (apply ay_maxi rfl; exact oo_; exact oo_) | (apply ay_mini rfl; exact oo_; exact oo_) | fail)
            | refine g37_ ?_
              | refine s_opg ?_ (hy := by intro hk hk2; first | (apply ay_nilp rfl; exact oo_; done) | (apply ay_nilp rfl; exact oog_; done)
                                                                | (apply ay_maxi rfl; exact oo_; exact oo_) | (apply ay_mini rfl; exact oo_; exact oo_) | fail)
            | refine sw_ ?_ | (refine aw_if ?_ ?_ <;> intro hb <;> try exact no_) | (refine sx_ ?_ <;> intro bb) | (refine su_ ?_ <;> intro u hu1 hu2) | fail)
            all_goals first | exact e5_ | skip
      · have e : doB (w, h, l, x, y, b, s) c = (doBK w h l x y b c, 0) := by unfold doB; rw [if_pos ⟨hok, hc⟩, if_neg q1, if_neg q2]
        rw [e]
        have h12 : c.1 ≠ 12 := fun z => q2 (.inr z)
        have hs : c.1 = 2 ∨ s = true := by
          cases s with
          | true => exact .inr rfl
          | false => exact .inl (Classical.byContradiction fun z => q2 (.inl ⟨rfl, z⟩))
        rcases cmd_ways hc with ⟨r, rfl, hr⟩ | ⟨a, d, rfl, ha, ha2, hd1, hd2⟩ | ⟨k, a, rfl, hk, ha⟩ | ⟨k, rfl, hk⟩
        · have hs' : s = true := by simpa using hs
          subst hs'
          exact (f_beDoText (T0 := T0) hok r hr).frz1 fza_
        · exact (f_beDoGo (T0 := T0) hok a d ⟨ha, ha2⟩ ⟨hd1, hd2⟩).frz1 fza_
        · have hs' : s = true := by rcases hs with z | z; simp only at z; omega; exact z
          subst hs'
          have key := (f_beDoUp (T0 := T0) hok k a hk ha).frz1 fza_
          rcases hk with rfl | rfl | rfl | rfl <;> exact key
        · have hk' : k = 7 ∨ k = 8 ∨ k = 9 ∨ k = 10 ∨ k = 11 := by simp only at h12; omega
          have hs' : s = true := by rcases hs with z | z; simp only at z; omega; exact z
          subst hs'
          have key := (f_beDoK (T0 := T0) hok k hk').frz1 fza_
          rcases hk' with rfl | rfl | rfl | rfl | rfl <;> exact key
  · rw [doB_no hh]
    have c3 : True := trivial
    have c4 : True := trivial
    show AP _ _ _ _ (tupA [blA noB, I 1])
    cases e1 : okBe w h l x y b s with
    | false =>
      have c1 : AP Tryd.prog T0 21 [belA w h l x y b s] (B false) := (f_beIs w h l x y b s).to (by rw [e1])
      have c2 := f_vtIs (T0 := T0) c
      refine af_intro Tryd.func8 rfl (by decide) Tryd.ntmps8 rfl ?_
      repeat' (first
      | (apply al_call0 rfl rfl rfl rfl (c := co)
         case ha => exact os_
         rintro _ _ ⟨u, rfl, rfl⟩; refine al_rowc (List.Mem.head _) fun hu1 hu2 => ?_)
      | refine g36_ ?_
        | refine s_op ?_ (hy := by first | (apply ay_nilp rfl; exact oo_; done) | (apply ay_nilp rfl; exact oog_; done)
                                           | (apply ay_maxi rfl; exact oo_; exact oo_) | (apply ay_mini rfl; exact oo_; exact oo_) | fail)
      | refine g37_ ?_
        | refine s_opg ?_ (hy := by intro hk hk2; first | (apply ay_nilp rfl; exact oo_; done) | (apply ay_nilp rfl; exact oog_; done)
                                                          | (apply ay_maxi rfl; exact oo_; exact oo_) | (apply ay_mini rfl; exact oo_; exact oo_) | fail)
      | refine sw_ ?_ | (refine aw_if ?_ ?_ <;> intro hb <;> try exact no_) | (refine sx_ ?_ <;> intro bb) | (refine su_ ?_ <;> intro u hu1 hu2) | fail)
      all_goals first | exact e5_ | skip
    | true =>
      have e2 : isCmd c = false := by
        cases e : isCmd c with
        | false => rfl
        | true => exact absurd ⟨e1, e⟩ hh
      have c1 : AP Tryd.prog T0 21 [belA w h l x y b s] (B true) := (f_beIs w h l x y b s).to (by rw [e1])
      have c2 : AP Tryd.prog T0 22 [cmdA c] (B false) := (f_vtIs c).to (by rw [e2])
      refine af_intro Tryd.func8 rfl (by decide) Tryd.ntmps8 rfl ?_
      repeat' (first
      | (apply al_call0 rfl rfl rfl rfl (c := co)
         case ha => exact os_
         rintro _ _ ⟨u, rfl, rfl⟩; refine al_rowc (List.Mem.head _) fun hu1 hu2 => ?_)
      | refine g36_ ?_
        | refine s_op ?_ (hy := by first | (apply ay_nilp rfl; exact oo_; done) | (apply ay_nilp rfl; exact oog_; done)
                                           | (apply ay_maxi rfl; exact oo_; exact oo_) | (apply ay_mini rfl; exact oo_; exact oo_) | fail)
      | refine g37_ ?_
        | refine s_opg ?_ (hy := by intro hk hk2; first | (apply ay_nilp rfl; exact oo_; done) | (apply ay_nilp rfl; exact oog_; done)
                                                          | (apply ay_maxi rfl; exact oo_; exact oo_) | (apply ay_mini rfl; exact oo_; exact oo_) | fail)
      | refine sw_ ?_ | (refine aw_if ?_ ?_ <;> intro hb <;> try exact no_) | (refine sx_ ?_ <;> intro bb) | (refine su_ ?_ <;> intro u hu1 hu2) | fail)
      all_goals first | exact e5_ | skip
end Go.Proofs.YtgfmjmfphmjdkaaDoor
