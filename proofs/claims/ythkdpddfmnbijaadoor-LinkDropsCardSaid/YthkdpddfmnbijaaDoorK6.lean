/- Layer 9 (link): what a link sends, by the program. No condition. -/
import Derived.Test.YthkdpddfmnbijaaDoorK5
import Derived.Test.YthkdpddfmnbijaaDoorK3
namespace Go.Proofs.YthkdpddfmnbijaaDoor
set_option linter.unusedSimpArgs false
set_option linter.unusedVariables false
set_option maxHeartbeats 4000000
open Go Go.RowKit
set_option maxRecDepth 100000
def sendL (room : Int) (l : List Cmd) (sent pad : Int) (off : Bool) (g : Int) : AV :=
  if okL room l sent pad = true ∧ off = false then tupA [SA (sendM l sent.toNat pad g).1, linkA room (sendM l sent.toNat pad g).2.1 ((sendM l sent.toNat pad g).2.2.1 : Nat) (sendM l sent.toNat pad g).2.2.2 off] else tupA [SA [], linkA room l sent pad off]
theorem send_le {l : List Cmd} {s : Nat} {p g : Int} (h : okS l s) (h0 : 0 ≤ p) (h1 : p ≤ 2) : (sendM l s p g).1.length ≤ costM l := by
  have h2 := (send_all l s p g h h0 h1).2.2.1
  have h3 := congrArg List.length h2
  rw [List.length_append, List.length_drop, List.length_drop, bytesM_len, bytesM_len] at h3; omega
/-- a state on the way: out is sent, and this is left -/
structure SendI (T : List UInt8 × List Cmd × Nat × Int) (L : Nat) (out : List UInt8) (l : List Cmd) (s : Nat) (p g : Int) : Prop where
  ok : okS l s
  p0 : 0 ≤ p
  p2 : p ≤ 2
  len : l.length ≤ L
  out : out ++ (sendM l s p g).1 = T.1
  rest : (sendM l s p g).2 = T.2
theorem SendI.stop {T : List UInt8 × List Cmd × Nat × Int} {L : Nat} {out : List UInt8} {l : List Cmd} {s : Nat} {p g : Int} (h : SendI T L out l s p g) (k : l = [] ∨ p ≠ 0 ∨ g ≤ 0) : T = (out, l, s, p) := by
  have a := h.out; have b := h.rest
  rw [sendM_stop k] at a b
  obtain ⟨t, u⟩ := T
  simp at a b; rw [← a, ← b]
theorem SendI.part {T : List UInt8 × List Cmd × Nat × Int} {L : Nat} {out : List UInt8} {c : Cmd} {l : List Cmd} {s : Nat} {g : Nat} (h : SendI T L out (c :: l) s 0 g) (h1 : 0 < g) (k : g < lenC c - s) : T = (out ++ ((putR' c).1.drop s).take g, c :: l, s + g, 0) := by
  have a := h.out; have b := h.rest
  rw [sendM_part (by omega) (by omega)] at a b
  obtain ⟨t, u⟩ := T
  simp at a b; rw [← a, ← b]
theorem SendI.whole {T : List UInt8 × List Cmd × Nat × Int} {L : Nat} {out : List UInt8} {c : Cmd} {l : List Cmd} {s : Nat} {g : Int} (h : SendI T L out (c :: l) s 0 g) (h1 : 0 < g) (k : ((lenC c - s : Nat) : Int) ≤ g) : SendI T L (out ++ (putR' c).1.drop s) l 0 (padC c) (g - ((lenC c - s : Nat) : Int)) := by
  have a := h.out; have b := h.rest
  rw [sendM_whole h1 k] at a b
  exact ⟨okS_tail h.ok, (pad_rng c).1, (pad_rng c).2, by have := h.len; simp at this; omega, by rw [List.append_assoc]; exact a, b⟩
theorem SendI.byte {T : List UInt8 × List Cmd × Nat × Int} {L : Nat} {out : List UInt8} {c : Cmd} {l : List Cmd} {s : Nat} {g : Int} (h : SendI T L out (c :: l) s 0 g) (h1 : 0 < g) :
    (s + 1 = lenC c → SendI T L (out ++ ((putR' c).1.drop s).take 1) l 0 (padC c) (g - 1)) ∧ (¬ s + 1 = lenC c → SendI T L (out ++ ((putR' c).1.drop s).take 1) (c :: l) (s + 1) 0 (g - 1)) := by
  have a := h.out; have b := h.rest
  have hlt := h.ok.2.2 c l rfl
  rw [sendM_byte h1 hlt] at a b
  constructor
  · intro e
    rw [if_pos e] at a b
    exact ⟨okS_tail h.ok, (pad_rng c).1, (pad_rng c).2, by have := h.len; simp at this; omega, by rw [List.append_assoc]; exact a, b⟩
  · intro e
    rw [if_neg e] at a b
    refine ⟨⟨h.ok.1, (fun e => nomatch e), fun d r q => ?_⟩, by decide, by decide, h.len, by rw [List.append_assoc]; exact a, b⟩
    injection q with e1 e2; subst e1; omega
theorem SendI.start {l : List Cmd} {s : Nat} {p g : Int} (h : okS l s) (h0 : 0 ≤ p) (h2 : p ≤ 2) : SendI (sendM l s p g) l.length [] l s p g := ⟨h, h0, h2, Nat.le_refl _, rfl, rfl⟩
attribute [local irreducible] thenA inBlockA AW AL AO QY varO rowO rsA Opd OpdN vA gvA tupA aggA slA slcA ipA rpA EqK LnK IxK LdK FaK FdK
theorem f_linkSend (room : Int) (l : List Cmd) (sent pad : Int) (off : Bool) (g : Int) (hl : l.length ≤ 90000) (hg : g ≤ 9223372036854775807) : AP Tryd.prog tab0 35 [linkA room l sent pad off, I g] (sendL room l sent pad off g) := by
  have c1 := f_linkIs room l sent pad off hl
  have c2 : True := trivial
  have c3 : True := trivial
  by_cases hk : okL room l sent pad = true ∧ off = false
  · rw [sendL, if_pos hk]
    obtain ⟨hk, rfl⟩ := hk
    have hs := okS_of hk
    rw [hk] at c1
    obtain ⟨hr, ha, h1, h2⟩ := okL_facts hk
    obtain ⟨n, rfl⟩ := Int.eq_ofNat_of_zero_le hr.2.2.2.2
    simp only [Int.toNat_natCast] at hs ⊢
    have hT := send_le (g := g) hs hr.2.2.1 hr.2.2.2.1
    have b1 := costM_le l
    have i0 := SendI.start (g := g) hs hr.2.2.1 hr.2.2.2.1
    generalize sendM l n pad g = T at *
    refine af_intro Tryd.func35 rfl (by decide) Tryd.ntmps35 rfl ?_
    repeat' (first
    | refine aw_scope (fun _ _ _ h => h) ?_ | refine aw_label ?_
    | refine s_y ?_
      | refine c_ ?_
      | (refine aw_if ?_ ?_ <;> intro hb <;> try (exfalso; first | assumption | omega | (simp only [or_self, and_self, not_true_eq_false, not_false_eq_true, or_false, false_or, and_false, false_and] at hb; done)))
      | refine s_call ?_ (c := by first | exact c1 | exact c2 | exact c3 | fail)
      | refine s_op ?_ (hy := by first | (apply bs_cmdA rfl un_; exact oo_; done) | fail)
      | refine s_yg ?_
      | refine s_callg ?_ (c := by intro hk hk2; first | exact c1 | exact c2 | exact c3 | fail)
      | refine s_opg ?_ (hy := by intro hk hk2; first | (apply bs_cmdA rfl un_; exact oo_; done) | fail)
      | refine s_skip ?_
      | ((first | refine w_alloc ?_ | refine w_box ?_) <;> intro bb)
      | ((first | refine w_emp ?_ | refine w_make ?_ | refine w_app ?_) <;> intro u hu1 hu2)
      | refine w_stv ?_ | refine w_str ?_ | refine w_cpr ?_ | refine w_cps ?_
      | refine al_last (by kernel_rfl) ?_
    | fail)
    refine aw_lv (σ := List UInt8 × List Cmd × Nat × Int × Int) (fun x => [(6, SA x.1), (1, I x.2.2.2.2)]) (fun x => [I room, slA cmdT x.2.1, I x.2.2.1, I x.2.2.2.1, B false]) (fun x => x.2.2.2.2 ≤ 9223372036854775807 ∧ SendI T l.length x.1 x.2.1 x.2.2.1 x.2.2.2.1 x.2.2.2.2) (fun x => x.2.1.length) ([], l, n, pad, g) ⟨hg, i0⟩ rfl ?_
    rintro ⟨out, l', s, p, g'⟩ ⟨hg', i1⟩
    simp only at hg' i1 ⊢
    have hlen := i1.len
    have hout : out.length ≤ T.1.length := by rw [← i1.out, List.length_append]; omega
    clear hk c1 i0 hs
    cases l' with
    | nil =>
      have e := i1.stop (.inl rfl)
      have h0 : ([] : List Cmd).length = 0 := rfl
      subst e
      repeat' (first
      | refine aw_scope (fun _ _ _ h => h) ?_ | refine aw_label ?_
      | refine s_y ?_
        | refine c_ ?_
        | (refine aw_if ?_ ?_ <;> intro hb <;> try (exfalso; first | assumption | omega | (simp only [or_self, and_self, not_true_eq_false, not_false_eq_true, or_false, false_or, and_false, false_and] at hb; done)))
        | refine s_call ?_ (c := by first | exact c1 | exact c2 | exact c3 | fail)
        | refine s_op ?_ (hy := by first | (apply bs_cmdA rfl un_; exact oo_; done) | fail)
        | refine s_yg ?_
        | refine s_callg ?_ (c := by intro hk hk2; first | exact c1 | exact c2 | exact c3 | fail)
        | refine s_opg ?_ (hy := by intro hk hk2; first | (apply bs_cmdA rfl un_; exact oo_; done) | fail)
        | refine s_skip ?_
        | ((first | refine w_alloc ?_ | refine w_box ?_) <;> intro bb)
        | ((first | refine w_emp ?_ | refine w_make ?_ | refine w_app ?_) <;> intro u hu1 hu2)
        | refine w_stv ?_ | refine w_str ?_ | refine w_cpr ?_ | refine w_cps ?_
        | refine al_last (by kernel_rfl) ?_
      | fail)
      exact ⟨_, [], rl_, List.nil_sublist _, Sub.eq (by rfl), rfl⟩
    | cons c l' =>
      have hlt := i1.ok.2.2 c l' rfl
      simp only [List.length_cons] at hlen
      have h9 : (c :: l').length = l'.length + 1 := rfl
      by_cases hp : p = 0
      · subst hp
        have c2 : AP Tryd.prog tab0 53 [slA cmdT (List.take (1 - 0) (List.drop 0 (c :: l')))] (SA (putR' c).1) := (f_linkBytes [c] (by simp)).to (by rw [bytesM_one])
        have c3 : AP Tryd.prog tab0 22 [slA cmdT [(c :: l')[0]]] (I (padC c)) := (f_vtPads [c] (by simp)).to (by rw [padsM_one])
        have hX : (putR' c).1.length = lenC c := rfl
        have hle := lenC_le c
        have hL : (((putR' c).1.drop s).take ((putR' c).1.length - s)).length = lenC c - s := by rw [List.length_take, List.length_drop]; omega
        have e1 : ((putR' c).1.drop s).take ((putR' c).1.length - s) = (putR' c).1.drop s := drop_take _ _
        by_cases hg0 : g' ≤ 0
        · have e := i1.stop (.inr (.inr hg0))
          subst e
          repeat' (first
          | refine aw_scope (fun _ _ _ h => h) ?_ | refine aw_label ?_
          | refine s_y ?_
            | refine c_ ?_
            | (refine aw_if ?_ ?_ <;> intro hb <;> try (exfalso; first | assumption | omega | (simp only [or_self, and_self, not_true_eq_false, not_false_eq_true, or_false, false_or, and_false, false_and] at hb; done)))
            | refine s_call ?_ (c := by first | exact c1 | exact c2 | exact c3 | fail)
            | refine s_op ?_ (hy := by first | (apply bs_cmdA rfl un_; exact oo_; done) | fail)
            | refine s_yg ?_
            | refine s_callg ?_ (c := by intro hk hk2; first | exact c1 | exact c2 | exact c3 | fail)
            | refine s_opg ?_ (hy := by intro hk hk2; first | (apply bs_cmdA rfl un_; exact oo_; done) | fail)
            | refine s_skip ?_
            | ((first | refine w_alloc ?_ | refine w_box ?_) <;> intro bb)
            | ((first | refine w_emp ?_ | refine w_make ?_ | refine w_app ?_) <;> intro u hu1 hu2)
            | refine w_stv ?_ | refine w_str ?_ | refine w_cpr ?_ | refine w_cps ?_
            | refine al_last (by kernel_rfl) ?_
          | fail)
          exact ⟨_, [], rl_, List.nil_sublist _, Sub.eq (by rfl), rfl⟩
        · obtain ⟨m, rfl⟩ := Int.eq_ofNat_of_zero_le (show 0 ≤ g' by omega)
          repeat' (first
          | refine aw_scope (fun _ _ _ h => h) ?_ | refine aw_label ?_
          | refine s_y ?_
            | refine c_ ?_
            | (refine aw_if ?_ ?_ <;> intro hb <;> try (exfalso; first | assumption | omega | (simp only [or_self, and_self, not_true_eq_false, not_false_eq_true, or_false, false_or, and_false, false_and] at hb; done)))
            | refine s_call ?_ (c := by first | exact c1 | exact c2 | exact c3 | fail)
            | refine s_op ?_ (hy := by first | (apply bs_cmdA rfl un_; exact oo_; done) | fail)
            | refine s_yg ?_
            | refine s_callg ?_ (c := by intro hk hk2; first | exact c1 | exact c2 | exact c3 | fail)
            | refine s_opg ?_ (hy := by intro hk hk2; first | (apply bs_cmdA rfl un_; exact oo_; done) | fail)
            | refine s_skip ?_
            | ((first | refine w_alloc ?_ | refine w_box ?_) <;> intro bb)
            | ((first | refine w_emp ?_ | refine w_make ?_ | refine w_app ?_) <;> intro u hu1 hu2)
            | refine w_stv ?_ | refine w_str ?_ | refine w_cpr ?_ | refine w_cps ?_
            | refine al_last (by kernel_rfl) ?_
          | fail)
          · have e := i1.part (by omega) (by omega)
            subst e
            refine ⟨_, [], rl_, List.nil_sublist _, Sub.eq ?_, rfl⟩
            rw [e1]; rfl
          · have e2 : List.take ((c :: l').length - 1) (List.drop 1 (c :: l')) = l' := by simp
            have e3 : (m : Int) - ((lenC c - s : Nat) : Int) = ((m - (lenC c - s) : Nat) : Int) := by omega
            have i2 := i1.whole (by omega) (by omega)
            rw [e3] at i2
            refine ⟨(out ++ (putR' c).1.drop s, l', 0, padC c, ((m - (lenC c - s) : Nat) : Int)), ⟨by show ((m - (lenC c - s) : Nat) : Int) ≤ _; omega, i2⟩, by simp, ?_, ?_⟩
            · rw [← hL, e1]; dsimp only; exact wx_
            · rw [e2]; exact sl_
      · have e := i1.stop (.inr (.inl hp))
        subst e
        repeat' (first
        | refine aw_scope (fun _ _ _ h => h) ?_ | refine aw_label ?_
        | refine s_y ?_
          | refine c_ ?_
          | (refine aw_if ?_ ?_ <;> intro hb <;> try (exfalso; first | assumption | omega | (simp only [or_self, and_self, not_true_eq_false, not_false_eq_true, or_false, false_or, and_false, false_and] at hb; done)))
          | refine s_call ?_ (c := by first | exact c1 | exact c2 | exact c3 | fail)
          | refine s_op ?_ (hy := by first | (apply bs_cmdA rfl un_; exact oo_; done) | fail)
          | refine s_yg ?_
          | refine s_callg ?_ (c := by intro hk hk2; first | exact c1 | exact c2 | exact c3 | fail)
          | refine s_opg ?_ (hy := by intro hk hk2; first | (apply bs_cmdA rfl un_; exact oo_; done) | fail)
          | refine s_skip ?_
          | ((first | refine w_alloc ?_ | refine w_box ?_) <;> intro bb)
          | ((first | refine w_emp ?_ | refine w_make ?_ | refine w_app ?_) <;> intro u hu1 hu2)
          | refine w_stv ?_ | refine w_str ?_ | refine w_cpr ?_ | refine w_cps ?_
          | refine al_last (by kernel_rfl) ?_
        | fail)
        exact ⟨_, [], rl_, List.nil_sublist _, Sub.eq (by rfl), rfl⟩
  · rw [sendL, if_neg hk]
    by_cases hk1 : okL room l sent pad = true
    · have hoff : off = true := by
        cases off
        · exact absurd ⟨hk1, rfl⟩ hk
        · rfl
      subst hoff
      rw [hk1] at c1
      refine af_intro Tryd.func35 rfl (by decide) Tryd.ntmps35 rfl ?_
      repeat' (first
      | refine aw_scope (fun _ _ _ h => h) ?_ | refine aw_label ?_
      | refine s_y ?_
        | refine c_ ?_
        | (refine aw_if ?_ ?_ <;> intro hb <;> try (exfalso; first | assumption | omega | (simp only [or_self, and_self, not_true_eq_false, not_false_eq_true, or_false, false_or, and_false, false_and] at hb; done)))
        | refine s_call ?_ (c := by first | exact c1 | exact c2 | exact c3 | fail)
        | refine s_op ?_ (hy := by first | (apply bs_cmdA rfl un_; exact oo_; done) | fail)
        | refine s_yg ?_
        | refine s_callg ?_ (c := by intro hk hk2; first | exact c1 | exact c2 | exact c3 | fail)
        | refine s_opg ?_ (hy := by intro hk hk2; first | (apply bs_cmdA rfl un_; exact oo_; done) | fail)
        | refine s_skip ?_
        | ((first | refine w_alloc ?_ | refine w_box ?_) <;> intro bb)
        | ((first | refine w_emp ?_ | refine w_make ?_ | refine w_app ?_) <;> intro u hu1 hu2)
        | refine w_stv ?_ | refine w_str ?_ | refine w_cpr ?_ | refine w_cps ?_
        | refine al_last (by kernel_rfl) ?_
      | fail)
      exact ⟨_, [], rl_, List.nil_sublist _, Sub.refl _, rfl⟩
    · have hk2 : okL room l sent pad = false := by simpa using hk1
      rw [hk2] at c1
      refine af_intro Tryd.func35 rfl (by decide) Tryd.ntmps35 rfl ?_
      repeat' (first
      | refine aw_scope (fun _ _ _ h => h) ?_ | refine aw_label ?_
      | refine s_y ?_
        | refine c_ ?_
        | (refine aw_if ?_ ?_ <;> intro hb <;> try (exfalso; first | assumption | omega | (simp only [or_self, and_self, not_true_eq_false, not_false_eq_true, or_false, false_or, and_false, false_and] at hb; done)))
        | refine s_call ?_ (c := by first | exact c1 | exact c2 | exact c3 | fail)
        | refine s_op ?_ (hy := by first | (apply bs_cmdA rfl un_; exact oo_; done) | fail)
        | refine s_yg ?_
        | refine s_callg ?_ (c := by intro hk hk2; first | exact c1 | exact c2 | exact c3 | fail)
        | refine s_opg ?_ (hy := by intro hk hk2; first | (apply bs_cmdA rfl un_; exact oo_; done) | fail)
        | refine s_skip ?_
        | ((first | refine w_alloc ?_ | refine w_box ?_) <;> intro bb)
        | ((first | refine w_emp ?_ | refine w_make ?_ | refine w_app ?_) <;> intro u hu1 hu2)
        | refine w_stv ?_ | refine w_str ?_ | refine w_cpr ?_ | refine w_cps ?_
        | refine al_last (by kernel_rfl) ?_
      | fail)
      exact ⟨_, [], rl_, List.nil_sublist _, Sub.refl _, rfl⟩
end Go.Proofs.YthkdpddfmnbijaaDoor
