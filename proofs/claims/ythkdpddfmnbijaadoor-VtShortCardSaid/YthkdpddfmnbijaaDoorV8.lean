/- Layer 5 (vt): the law of short bytes. No condition. -/
import Derived.Test.YthkdpddfmnbijaaDoorV6
namespace Go.Proofs.YthkdpddfmnbijaaDoor
set_option linter.unusedSimpArgs false
set_option linter.unusedVariables false
set_option maxHeartbeats 4000000
open Go Go.RowKit
set_option maxRecDepth 100000
def highB (l : List UInt8) : Prop := ∀ b ∈ l, 32 ≤ b.toNat
theorem high_app {a b : List UInt8} (h : highB a) (k : highB b) : highB (a ++ b) := fun x hx => by
  rcases List.mem_append.1 hx with hx | hx
  · exact h x hx
  · exact k x hx
theorem high_dig {n : Nat} (h : n < 100) : highB (digB n) := fun b hb => by
  unfold digB at hb
  split at hb
  · simp at hb; subst hb; simp; omega
  · simp at hb; rcases hb with rfl | rfl <;> simp <;> omega
theorem enc_tail {r : Int} (h : isG r = true) : highB ((encC r).drop 1) := fun b hb => by
  have h2 : 0 ≤ r ∧ r ≤ 1114111 := by simp [isG] at h; omega
  unfold encC at hb
  (repeat' split at hb) <;> simp at hb
  · subst hb; simp; omega
  · rcases hb with rfl | rfl <;> simp <;> omega
  · rcases hb with rfl | rfl | rfl <;> simp <;> omega
theorem bytes_tail {c : Cmd} (h : isCmd c = true) : highB ((bytesB c).drop 1) := by
  obtain ⟨k, a, b, r⟩ := c
  have one : ∀ x : UInt8, 32 ≤ x.toNat → highB [x] := fun x hx y hy => by simp at hy; subst hy; exact hx
  rcases isCmd_cases h with ⟨rfl, hs⟩ | ⟨rfl, a1, a2, b1, b2⟩ | ⟨h3, a1, a2⟩ | h7
  · simp only [bytesB, if_true]
    rw [encB_eq (isG_shown hs)]; exact enc_tail (isG_shown hs)
  · have : bytesB (2, a, b, r) = 27 :: ([91] ++ digB (a + 1).toNat ++ [59] ++ digB (b + 1).toNat ++ [72]) := by simp [bytesB]
    rw [this, List.drop_one, List.tail_cons]
    exact high_app (high_app (high_app (high_app (one _ (by decide)) (high_dig (by omega))) (one _ (by decide))) (high_dig (by omega))) (one _ (by decide))
  · have : bytesB (k, a, b, r) = 27 :: ([91] ++ (if a = 1 then [] else digB a.toNat) ++ [UInt8.ofNat (62 + k).toNat]) := by
      simp only [bytesB]; rw [if_neg (by omega), if_neg (by omega), if_pos (by omega)]; rfl
    rw [this, List.drop_one, List.tail_cons]
    refine high_app (high_app (one _ (by decide)) ?_) (one _ (by simp; omega))
    split
    · exact fun x hx => by simp at hx
    · exact high_dig (by omega)
  · have hk : k = 7 ∨ k = 8 ∨ k = 9 ∨ k = 10 ∨ k = 11 ∨ k = 12 := by omega
    rcases hk with rfl | rfl | rfl | rfl | rfl | rfl <;> (simp only [bytesB, formB]; exact fun x hx => by first | (simp at hx; done) | (simp at hx; rcases hx with rfl | rfl <;> decide))
attribute [local irreducible] thenA inBlockA AW AL AO QY varO rowO rsA Opd OpdN vA gvA tupA aggA slA slcA ipA rpA EqK LnK IxK LdK FaK FdK
theorem l_VtShort (c : Cmd) : AP Tryd.prog tab0 6 [cmdA c] (B true) := by
  obtain ⟨k, a, b, r⟩ := c
  show AP Tryd.prog tab0 _ [aggA [I k, I a, I b, R r]] _
  by_cases hc : isCmd (k, a, b, r) = true
  · have hl := bytesB_len hc
    have ht := bytes_tail hc
    have hk : k = 1 → (bytesB (k, a, b, r)).length ≤ 4 := fun e => by
      subst e
      have hs : isG r = true := by
        rcases isCmd_cases hc with ⟨_, hs⟩ | ⟨h, _⟩ | ⟨h, _⟩ | h
        · exact isG_shown hs
        all_goals omega
      simp only [bytesB, if_true]
      rw [encB_eq hs]; exact (encC_len r).2
    have c1 : AP Tryd.prog tab0 15 [aggA [I k, I a, I b, R r]] (tupA [SA (bytesB (k, a, b, r)), I 0]) := (f_vtPut (k, a, b, r)).to (by rw [putR', if_pos hc]; rfl)
    have c2 : AP Tryd.prog tab0 18 [aggA [I k, I a, I b, R r]] (B true) := hc ▸ f_vtIs (k, a, b, r)
    generalize bytesB (k, a, b, r) = l at *
    refine af_intro Tryd.func6 rfl (by decide) Tryd.ntmps6 rfl ?_
    repeat' (first
    | fail
    | refine s_y ?_
      | refine c_ ?_
      | (refine aw_if ?_ ?_ <;> intro hb <;> try (exfalso; first | assumption | omega))
      | refine s_call ?_ (c := by first | exact f_told | exact c1 | exact c2 | fail)
      | refine s_op ?_ (hy := by first | fail | fail)
      | refine s_yg ?_
      | refine s_callg ?_ (c := by intro hk hk2; first | exact f_told | exact c1 | exact c2 | fail)
      | refine s_opg ?_ (hy := by intro hk hk2; first | fail | fail)
      | refine s_skip ?_
      | ((first | refine w_alloc ?_ | refine w_box ?_) <;> intro bb)
      | ((first | refine w_emp ?_ | refine w_make ?_ | refine w_app ?_) <;> intro u hu1 hu2)
      | refine w_stv ?_ | refine w_str ?_ | refine w_cpr ?_ | refine w_cps ?_
      | refine al_last (by kernel_rfl) ?_
    | fail)
    all_goals first | (exfalso; simp at hb; done) | (exfalso; omega) | skip
    refine aw_lf (fun i : Nat => [(5, I i)]) (fun i => 1 ≤ i ∧ i ≤ l.length) (fun i => l.length - i) 1 ⟨Nat.le_refl _, hl.1⟩ ?_
    rintro i ⟨i1, i2⟩
    by_cases hlt : i < l.length
    · have hat : l[i]? = some l[i] := List.getElem?_eq_getElem hlt
      have hhi : 32 ≤ (l[i]).toNat := ht _ (by
        refine List.mem_of_getElem? (i := i - 1) ?_
        rw [List.getElem?_drop, show 1 + (i - 1) = i by omega]; exact hat)
      repeat' (first
      | fail
      | refine s_y ?_
        | refine c_ ?_
        | (refine aw_if ?_ ?_ <;> intro hb <;> try (exfalso; first | assumption | omega))
        | refine s_call ?_ (c := by first | exact f_told | exact c1 | exact c2 | fail)
        | refine s_op ?_ (hy := by first | fail | fail)
        | refine s_yg ?_
        | refine s_callg ?_ (c := by intro hk hk2; first | exact f_told | exact c1 | exact c2 | fail)
        | refine s_opg ?_ (hy := by intro hk hk2; first | fail | fail)
        | refine s_skip ?_
        | ((first | refine w_alloc ?_ | refine w_box ?_) <;> intro bb)
        | ((first | refine w_emp ?_ | refine w_make ?_ | refine w_app ?_) <;> intro u hu1 hu2)
        | refine w_stv ?_ | refine w_str ?_ | refine w_cpr ?_ | refine w_cps ?_
        | refine al_last (by kernel_rfl) ?_
      | fail)
      exact ⟨i + 1, ⟨by omega, by omega⟩, by omega, wx_, sl_⟩
    · repeat' (first
      | fail
      | refine s_y ?_
        | refine c_ ?_
        | (refine aw_if ?_ ?_ <;> intro hb <;> try (exfalso; first | assumption | omega))
        | refine s_call ?_ (c := by first | exact f_told | exact c1 | exact c2 | fail)
        | refine s_op ?_ (hy := by first | fail | fail)
        | refine s_yg ?_
        | refine s_callg ?_ (c := by intro hk hk2; first | exact f_told | exact c1 | exact c2 | fail)
        | refine s_opg ?_ (hy := by intro hk hk2; first | fail | fail)
        | refine s_skip ?_
        | ((first | refine w_alloc ?_ | refine w_box ?_) <;> intro bb)
        | ((first | refine w_emp ?_ | refine w_make ?_ | refine w_app ?_) <;> intro u hu1 hu2)
        | refine w_stv ?_ | refine w_str ?_ | refine w_cpr ?_ | refine w_cps ?_
        | refine al_last (by kernel_rfl) ?_
      | fail)
      refine ⟨_, [], rs_, List.nil_sublist _, Sub.eq (congrArg B ?_), rfl⟩
      by_cases e : k = 1
      · have := hk e; simp [e]; omega
      · simp [e]; omega
  · have c1 : AP Tryd.prog tab0 15 [aggA [I k, I a, I b, R r]] (tupA [SA [], I 1]) := (f_vtPut (k, a, b, r)).to (by rw [putR', if_neg hc]; rfl)
    have c2 : AP Tryd.prog tab0 18 [aggA [I k, I a, I b, R r]] (B false) := by
      have := f_vtIs (k, a, b, r)
      rw [show isCmd (k, a, b, r) = false by simpa using hc] at this; exact this
    refine af_intro Tryd.func6 rfl (by decide) Tryd.ntmps6 rfl ?_
    repeat' (first
    | fail
    | refine s_y ?_
      | refine c_ ?_
      | (refine aw_if ?_ ?_ <;> intro hb <;> try (exfalso; first | assumption | omega))
      | refine s_call ?_ (c := by first | exact f_told | exact c1 | exact c2 | fail)
      | refine s_op ?_ (hy := by first | fail | fail)
      | refine s_yg ?_
      | refine s_callg ?_ (c := by intro hk hk2; first | exact f_told | exact c1 | exact c2 | fail)
      | refine s_opg ?_ (hy := by intro hk hk2; first | fail | fail)
      | refine s_skip ?_
      | ((first | refine w_alloc ?_ | refine w_box ?_) <;> intro bb)
      | ((first | refine w_emp ?_ | refine w_make ?_ | refine w_app ?_) <;> intro u hu1 hu2)
      | refine w_stv ?_ | refine w_str ?_ | refine w_cpr ?_ | refine w_cps ?_
      | refine al_last (by kernel_rfl) ?_
    | fail)
    all_goals first | (exfalso; simp at hb; done) | (exfalso; omega) | skip
    exact ⟨_, [], rs_, List.nil_sublist _, Sub.eq (congrArg B (by decide)), rfl⟩
end Go.Proofs.YthkdpddfmnbijaaDoor
