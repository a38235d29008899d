/- Layer 6 (scan): the next command, by the program. No condition. -/
import Derived.Test.YtplabpjkkcillaaDoorS7
namespace Go.Proofs.YtplabpjkkcillaaDoor
set_option linter.unusedSimpArgs false
set_option linter.unusedVariables false
set_option linter.unusedSectionVars false
set_option maxHeartbeats 4000000
open Go Go.RowKit
set_option maxRecDepth 200000
/-- the next command, what is left, and an error's number -/
def nextM (s : List UInt8) : Cmd × List UInt8 × Int := if s = [] then ((0, 0, 0, 0), [], 6) else ((cmdM s).2.1, (cmdM s).2.2, (cmdM s).1)
theorem wp_defer {P : Program} {id : Nat} {o1 o2 : Oper} {x : Nat} {f : FuncId} {caps : Array Operand} {ts : Array TypeId} {a : Act} {w : World} {R : Exit → Act → World → Prop} (hg1 : o1.guard = none) (hg2 : o2.guard = none) (hd1 : o1.dst = some x) (hd2 : o2.dst = none) (h1 : o1.op = .makeFunc (.func f) #[] caps) (h2 : o2.op = .defer { callee := .value (.tmp x), args := #[], argTypes := ts }) (hx : x < a.tmps.size)
    (h : R .normal { tmps := a.tmps.setIfInBounds x (.func (.func f) #[] (caps.map a.eval)), defers := { target := .fn (.func f) (caps.map a.eval), args := #[] } :: a.defers } w) : (Code.region id [o1, o2].toArray false).wp P R a w := by
  refine wp_region_lit (wpList_plain hg1 fun K hK => ?_)
  have r1 : (execOp a.eval o1).run P w = .ok (.value (.func (.func f) #[] (caps.map a.eval))) w := by
    simp only [execOp, h1, Sem.run_bind, show ∀ (fn : Fn) (first cap : Array Value), (Instr.makeFunc fn first cap).run P w = .ok (.func fn first cap) w from fun _ _ _ => rfl, Result.andThen_ok, Sem.run_pure]
    simp
  unfold Oper.wp; rw [r1]
  refine hK _ _ (wpList_plain hg2 fun K2 hK2 => ?_)
  have e : (a.put o1.dst (.func (.func f) #[] (caps.map a.eval))).eval (.tmp x) = .func (.func f) #[] (caps.map a.eval) := by
    simp [Act.put, hd1, Act.eval, hx]
  have r2 : (execOp (a.put o1.dst (.func (.func f) #[] (caps.map a.eval))).eval o2).run P w = .ok (.defer { target := .fn (.func f) (caps.map a.eval), args := #[] }) w := by
    simp only [execOp, h2, resolve, e]
    simp [Deferred.ofValue]
  unfold Oper.wp; rw [r2]
  refine hK2 _ _ (wpList_nil ?_)
  rw [hd1, hd2]; exact h
theorem drop_take2 {α : Type} (l : List α) (n : Nat) : (l.drop n).take (l.length - n) = l.drop n := List.take_of_length_le (by rw [List.length_drop]; omega)
instance cAlStr : AlC 9 (.string ⟨#[]⟩) [.string ⟨#[]⟩] [SA []] := ⟨by kernel_rfl, rfl, rfl⟩
instance cAlErr : AlC 24 (.int .i64 0) [.int .i64 0] [I 0] := ⟨by kernel_rfl, rfl, rfl⟩
variable {T0 : Gh} [TabU T0]
attribute [local irreducible] thenA inBlockA AW AL AO QY varO rowO rsA Opd OpdN vA gvA tupA aggA slA slcA ipA rpA EqK LnK IxK LdK FaK FdK
theorem f_scanNextE : AP Tryd.prog T0 16 [SA []] (tupA [cmdA (0, 0, 0, 0), SA [], I 6]) := by
  refine af_intro Tryd.func16 rfl (by decide) Tryd.ntmps16 rfl ?_
  repeat' (first
  | fail
  | refine s_y ?_
    | refine c_ ?_
    | (refine aw_if ?_ ?_ <;> intro hb <;> try (exfalso; first | assumption | omega | (simp only [or_self, and_self, not_true_eq_false, not_false_eq_true, or_false, false_or, and_false, false_and, true_and, and_true] at hb; first | done | omega)))
    | refine s_call ?_ (c := by first | fail | fail)
    | refine s_op ?_ (hy := by first | fail | fail)
    | refine s_yg ?_
    | refine s_callg ?_ (c := by intro hk hk2; first | fail | fail)
    | refine s_opg ?_ (hy := by intro hk hk2; first | fail | fail)
    | refine s_skip ?_
    | ((first | refine w_alloc ?_ | refine w_box ?_) <;> intro bb)
    | ((first | refine w_emp ?_ | refine w_make ?_ | refine w_app ?_) <;> intro u hu1 hu2)
    | refine w_stv ?_ | refine w_str ?_ | refine w_cpr ?_ | refine w_cps ?_
    | refine al_last (by kernel_rfl) ?_
  | fail)
  all_goals first | exact ⟨_, [], rl_, List.nil_sublist _, Sub.eq (by rfl), rfl⟩ | (exfalso; simp at hb; done)
def zeroO (b2 b3 b4 : Nat) : List Own := [numO b4 0, strO b3 [], cmdO b2 (0, 0, 0, 0)]
abbrev fr4 (s : List UInt8) (b2 b3 b4 : Nat) : Fr := [(0, SA s), (2, ptA b2), (3, ptA b3), (4, ptA b4)]
/-- how the part behind 'defer' ends -/
def nextQ (s : List UInt8) (b2 b3 b4 : Nat) : Post := fun ex fr M => Weak fr (fr4 s b2 b3 b4) ∧ ((ex = .ret ∧ ∃ c t, cmdM s = (0, c, t) ∧ List.Sublist [numO b4 0, strO b3 t, cmdO b2 c] M) ∨ (∃ e, ex = .panic (errP e) ∧ e ≠ 0 ∧ (cmdM s).1 = e ∧ List.Sublist [numO b4 0, strO b3 [], cmdO b2 (0, 0, 0, 0)] M))
theorem next_rest (s : List UInt8) (hs : s.length ≤ 9223372036854775807) (h0 : s ≠ []) (D : List Deferred) (b2 b3 b4 : Nat) : ∀ c1 c2 c3 c4 : Code, Tryd.f16.body = some (.seq c1 (.seq c2 (.seq c3 c4))) → AW Tryd.prog T0 ⟨18, D⟩ c4 (nextQ s b2 b3 b4) (fr4 s b2 b3 b4) (zeroO b2 b3 b4) := by
  have htail : ∀ c t, cmdM s = (0, c, t) → t.length ≤ s.length ∧ List.take (s.length - (s.length - t.length)) (List.drop (s.length - t.length) s) = t := fun c t h => by
    rcases cmd_sound s h0 with ⟨c', l, t', _, h2, h3⟩ | ⟨h1, _⟩ | h1
    · rw [h] at h3
      simp only [Prod.mk.injEq, true_and] at h3
      obtain ⟨_, rfl⟩ := h3
      rw [drop_take2, h2, List.length_append]
      exact ⟨by omega, by rw [show l.length + t.length - t.length = l.length by omega, List.drop_left]⟩
    · rw [h] at h1; cases h1
    · rw [h] at h1; cases h1
  intro c1 c2 c3 c4 hb
  obtain ⟨rfl, rfl, rfl, rfl⟩ : _ ∧ _ ∧ _ ∧ _ := by
    have := Option.some.inj hb
    injection this with e1 e2
    injection e2 with e3 e4
    injection e4 with e5 e6
    exact ⟨e1, e3, e5, e6⟩
  unfold zeroO
  repeat' (first
  | (apply al_call1p rfl rfl rfl rfl (c := f_command _ s hs h0)
     case ha => exact os_
     case hM => exact pick_
     case hp =>
       rintro ch M1 ⟨e, k1, k2, rfl⟩
       repeat' (first | refine th_p ?_ | refine ib_p ?_)
       exact ⟨wk_, .inr ⟨e, rfl, k1, k2, List.sublist_append_of_sublist_right sl_⟩⟩
     rintro _ _ ⟨c, t, hct, rfl, rfl⟩
     have ht := htail c t hct)
  | (apply aw_regionN; (case hn => rfl); (case hm => kernel_rfl))
    | refine an_end ?_ (by rfl)
    | (apply an_all; (case hL => rfl); (case hne => rfl))
    | exact ai_nil
    | apply ai_cons
    | (apply at_i; (case ho => rfl))
    | (apply j_first; exact ext1_)
    | (apply j_next; (case h => exact ext_); (case hk => exact wk_); (case hc => rfl))
  | refine s_y ?_
    | refine c_ ?_
    | (refine aw_if ?_ ?_ <;> intro hb <;> try (exfalso; first | assumption | omega | (simp only [or_self, and_self, not_true_eq_false, not_false_eq_true, or_false, false_or, and_false, false_and, true_and, and_true] at hb; first | done | omega)))
    | refine s_call ?_ (c := by first | fail | fail)
    | refine s_op ?_ (hy := by first | fail | fail)
    | refine s_yg ?_
    | refine s_callg ?_ (c := by intro hk hk2; first | fail | fail)
    | refine s_opg ?_ (hy := by intro hk hk2; first | fail | fail)
    | refine s_skip ?_
    | ((first | refine w_alloc ?_ | refine w_box ?_) <;> intro bb)
    | ((first | refine w_emp ?_ | refine w_make ?_ | refine w_app ?_) <;> intro u hu1 hu2)
    | refine w_stv ?_ | refine w_str ?_ | refine w_cpr ?_ | refine w_cps ?_
    | refine al_last (by kernel_rfl) ?_
  | fail)
  refine ⟨wk_, .inl ⟨rfl, c, t, hct, ?_⟩⟩
  rw [ht.2]
  exact sl_
def K1 (s : List UInt8) : Fr → List Own → Prop := fun fr M => ∃ b2 b3 b4, Weak fr (fr4 s b2 b3 b4) ∧ List.Sublist [numO b4 0, strO b3 [], cmdO b2 (0, 0, 0, 0)] M
def K2 (s : List UInt8) (b2 b3 b4 : Nat) : Fr → List Own → Prop := fun fr M => Weak fr (fr4 s b2 b3 b4) ∧ List.Sublist [numO b4 0, strO b3 [], cmdO b2 (0, 0, 0, 0)] M
theorem next_c1 (s : List UInt8) : ∀ c1 c2 c3 c4 : Code, Tryd.f16.body = some (.seq c1 (.seq c2 (.seq c3 c4))) → AW Tryd.prog T0 ⟨18, []⟩ c1 (thenA (K1 s) fun _ _ _ => False) [(0, SA s)] [] := by
  intro c1 c2 c3 c4 hb
  obtain ⟨rfl, rfl, rfl, rfl⟩ : _ ∧ _ ∧ _ ∧ _ := by
    have := Option.some.inj hb
    injection this with e1 e2
    injection e2 with e3 e4
    injection e4 with e5 e6
    exact ⟨e1, e3, e5, e6⟩
  repeat' (first
  | fail
  | refine s_y ?_
    | refine c_ ?_
    | (refine aw_if ?_ ?_ <;> intro hb <;> try (exfalso; first | assumption | omega | (simp only [or_self, and_self, not_true_eq_false, not_false_eq_true, or_false, false_or, and_false, false_and, true_and, and_true] at hb; first | done | omega)))
    | refine s_call ?_ (c := by first | fail | fail)
    | refine s_op ?_ (hy := by first | fail | fail)
    | refine s_yg ?_
    | refine s_callg ?_ (c := by intro hk hk2; first | fail | fail)
    | refine s_opg ?_ (hy := by intro hk hk2; first | fail | fail)
    | refine s_skip ?_
    | ((first | refine w_alloc ?_ | refine w_box ?_) <;> intro bb)
    | ((first | refine w_emp ?_ | refine w_make ?_ | refine w_app ?_) <;> intro u hu1 hu2)
    | refine w_stv ?_ | refine w_str ?_ | refine w_cpr ?_ | refine w_cps ?_
    | refine al_last (by kernel_rfl) ?_
  | fail)
  exact ⟨_, _, _, wk_, sl_⟩
theorem next_c2 (s : List UInt8) (h0 : s ≠ []) (b2 b3 b4 : Nat) : ∀ c1 c2 c3 c4 : Code, Tryd.f16.body = some (.seq c1 (.seq c2 (.seq c3 c4))) → AW Tryd.prog T0 ⟨18, []⟩ c2 (thenA (K2 s b2 b3 b4) fun _ _ _ => False) (fr4 s b2 b3 b4) [numO b4 0, strO b3 [], cmdO b2 (0, 0, 0, 0)] := by
  intro c1 c2 c3 c4 hb
  obtain ⟨rfl, rfl, rfl, rfl⟩ : _ ∧ _ ∧ _ ∧ _ := by
    have := Option.some.inj hb
    injection this with e1 e2
    injection e2 with e3 e4
    injection e4 with e5 e6
    exact ⟨e1, e3, e5, e6⟩
  repeat' (first
  | fail
  | refine s_y ?_
    | refine c_ ?_
    | (refine aw_if ?_ ?_ <;> intro hb <;> try (exfalso; first | assumption | omega | (simp only [or_self, and_self, not_true_eq_false, not_false_eq_true, or_false, false_or, and_false, false_and, true_and, and_true] at hb; first | done | omega)))
    | refine s_call ?_ (c := by first | fail | fail)
    | refine s_op ?_ (hy := by first | fail | fail)
    | refine s_yg ?_
    | refine s_callg ?_ (c := by intro hk hk2; first | fail | fail)
    | refine s_opg ?_ (hy := by intro hk hk2; first | fail | fail)
    | refine s_skip ?_
    | ((first | refine w_alloc ?_ | refine w_box ?_) <;> intro bb)
    | ((first | refine w_emp ?_ | refine w_make ?_ | refine w_app ?_) <;> intro u hu1 hu2)
    | refine w_stv ?_ | refine w_str ?_ | refine w_cpr ?_ | refine w_cps ?_
    | refine al_last (by kernel_rfl) ?_
  | fail)
  all_goals first | exact ⟨wk_, sl_⟩ | (exact absurd (by simpa using hb) h0)
def dN (b2 b3 b4 : Nat) : Deferred := { target := .fn (.func 40) #[.pointer (some ⟨b2, 0, none⟩), .pointer (some ⟨b3, 0, none⟩), .pointer (some ⟨b4, 0, none⟩)], args := #[] }
theorem next_c3 (s : List UInt8) (b2 b3 b4 : Nat) : ∀ c1 c2 c3 c4 : Code, Tryd.f16.body = some (.seq c1 (.seq c2 (.seq c3 c4))) → ∀ {a : Act} {w w0 : World} {G : Gh} {F M : List Own} {R : Exit → Act → World → Prop}, Con T0 ⟨18, []⟩ w0 G F (fr4 s b2 b3 b4) M a w →
    (∀ a', Con T0 ⟨18, [dN b2 b3 b4]⟩ w0 G F (fr4 s b2 b3 b4) M a' w → R .normal a' w) → c3.wp Tryd.prog R a w := by
  intro c1 c2 c3 c4 hb a w w0 G F M R hc h
  obtain ⟨rfl, rfl, rfl, rfl⟩ : _ ∧ _ ∧ _ ∧ _ := by
    have := Option.some.inj hb
    injection this with e1 e2
    injection e2 with e3 e4
    injection e4 with e5 e6
    exact ⟨e1, e3, e5, e6⟩
  have hsz : a.tmps.size = 18 := hc.size
  refine wp_defer rfl rfl rfl rfl rfl rfl (by rw [hsz]; decide) ?_
  have s2 := (hc.slot (t := 2) (A := ptA b2) rfl).eq
  have s3 := (hc.slot (t := 3) (A := ptA b3) rfl).eq
  have s4 := (hc.slot (t := 4) (A := ptA b4) rfl).eq
  have hcaps : (#[Operand.tmp 2, Operand.tmp 3, Operand.tmp 4].map a.eval) = #[.pointer (some ⟨b2, 0, none⟩), .pointer (some ⟨b3, 0, none⟩), .pointer (some ⟨b4, 0, none⟩)] := by simp [s2, s3, s4]
  have hdef : a.defers = [] := hc.defers
  refine h _ ⟨hc.st, ?_, ?_, ?_⟩
  · have hput := frRel.put (a := a) (d := some 9) (A := anyA) hc.fr (fun x hx => by cases hx; rw [hsz]; decide) (Rep.any G (.func (.func 40) #[] (#[Operand.tmp 2, Operand.tmp 3, Operand.tmp 4].map a.eval)))
    exact (weak_cons rfl (weak_cons rfl (weak_cons rfl (weak_cons rfl weak_nil))) : Weak ((9, anyA) :: fr4 s b2 b3 b4) (fr4 s b2 b3 b4)) G _ hput
  · simp [hsz]
  · show _ :: a.defers = _
    rw [hdef, hcaps]; rfl
theorem f_scanNext (s : List UInt8) (hs : s.length ≤ 9223372036854775807) : AP Tryd.prog T0 16 [SA s] (tupA [cmdA (nextM s).1, SA (nextM s).2.1, I (nextM s).2.2]) := by
  by_cases h0 : s = []
  · subst h0
    exact f_scanNextE.to (by rw [nextM, if_pos rfl])
  rw [nextM, if_neg h0]
  obtain ⟨c1, c2, c3, c4, hb⟩ : ∃ c1 c2 c3 c4, Tryd.f16.body = some (.seq c1 (.seq c2 (.seq c3 c4))) := ⟨_, _, _, _, rfl⟩
  have n1 := next_c1 (T0 := T0) s c1 c2 c3 c4 hb
  have n2 := fun b2 b3 b4 => next_c2 (T0 := T0) s h0 b2 b3 b4 c1 c2 c3 c4 hb
  have n4 := fun D b2 b3 b4 => next_rest (T0 := T0) s hs h0 D b2 b3 b4 c1 c2 c3 c4 hb
  refine ⟨⟨Tryd.f16, Tryd.func16, by decide, by rw [hb]; rfl⟩, fun w0 G F w vs hst hr => ?_⟩
  obtain ⟨v, rfl⟩ : ∃ v, vs = [v] := List.length_eq_one_iff.1 hr.len
  have hv := hr.1.eq
  subst hv
  refine calls_of_wp_defers Tryd.func16 hb ?_
  have hc : Con T0 ⟨18, []⟩ w0 G F [(0, SA s)] [] { tmps := [Value.string ⟨s.toArray⟩].toArray ++ Array.replicate (Tryd.f16.ntmps - [Value.string ⟨s.toArray⟩].toArray.size) undef, defers := [] } w :=
    ⟨hst, frRel_cons (u := .string ⟨s.toArray⟩) (by simp) (Rep.va _ _) frRel_nil, by simp [Tryd.ntmps16], rfl⟩
  refine wp_via (K1 s) n1 hc ?_
  rintro fr1 M1 G1 a1 w1 ⟨b2, b3, b4, k1, k2⟩ l1 hc1
  refine wp_via (K2 s b2 b3 b4) (n2 b2 b3 b4) (hc1.weak k1 k2) ?_
  rintro fr2 M2 G2 a2 w2 ⟨k3, k4⟩ l2 hc2
  refine wp_seq (next_c3 s b2 b3 b4 c1 c2 c3 c4 hb (hc2.weak k3 k4) fun a3 hc3 => ?_)
  refine wp_AW (n4 [dN b2 b3 b4] b2 b3 b4) hc3 ?_
  have hinv : ∀ w, (invoke (.fn (.func 40) #[.pointer (some ⟨b2, 0, none⟩), .pointer (some ⟨b3, 0, none⟩), .pointer (some ⟨b4, 0, none⟩)]) #[]).run Tryd.prog w = .ok (.enter 40 #[.pointer (some ⟨b2, 0, none⟩), .pointer (some ⟨b3, 0, none⟩), .pointer (some ⟨b4, 0, none⟩)]) w := fun w => by
    have hcl : Callable Tryd.prog 40 := ⟨_, Tryd.func40, by decide, rfl⟩
    simp [invoke, run_callFunc hcl]
  rintro ex a4 w4 ⟨fr5, M4, G4, ⟨k5, k6⟩, l4, hc4⟩
  have hfr := k5 G4 _ hc4.fr
  have hdef : a4.defers = [dN b2 b3 b4] := hc4.defers
  rcases k6 with ⟨rfl, c, t, hct, hsub⟩ | ⟨e, rfl, he, hce, hsub⟩
  · have hst4 := hc4.st.sub (hsub.append (List.Sublist.refl F))
    show Leaves Tryd.prog Tryd.f16 a4.tmps _ a4.defers .returning w4
    rw [hdef]
    refine leaves_cons (by simp) (hinv w4) (d_idle.mono ?_)
    rintro en u' w5 ⟨⟨v, rfl⟩, rfl, rfl⟩
    have hres : ResA Tryd.prog T0 Tryd.f16 (fr4 s b2 b3 b4) [numO b4 0, strO b3 t, cmdO b2 c] (tupA [cmdA c, SA t, I 0]) := rl_
    obtain ⟨u, hu1, hu2⟩ := hres w0 G4 F a4.tmps w5 hst4 hfr
    rw [hct]
    exact ⟨u, hu1, .inl ⟨u, _, [], G4, rfl, ⟨Sub.refl _, rfl⟩, hu2, l1.trans (l2.trans l4), hst4.sub (List.sublist_append_right _ _)⟩⟩
  · have hst4 := hc4.st.sub (hsub.append (List.Sublist.refl F))
    have he23 : (e = 2 ∨ e = 3) ∧ cmdM s = nok e := by
      rcases cmd_sound s h0 with ⟨c', l, t', _, h2, h3⟩ | ⟨h1, _⟩ | h1
      · rw [h3] at hce; exact absurd hce.symm he
      · rw [h1] at hce; simp only [nok] at hce; exact ⟨.inr hce.symm, by rw [h1, hce]⟩
      · rw [h1] at hce; simp only [nok] at hce; exact ⟨.inl hce.symm, by rw [h1, hce]⟩
    show Leaves Tryd.prog Tryd.f16 a4.tmps _ a4.defers (.panicking (errP e)) w4
    rw [hdef]
    refine leaves_cons (by simp) (hinv w4) ((d_panic e he23.1 hst4).mono ?_)
    rintro en u' w5 ⟨⟨v, rfl⟩, rfl, G5, l5, hst5⟩
    have hres : ResA Tryd.prog T0 Tryd.f16 (fr4 s b2 b3 b4) [numO b4 e, strO b3 [], cmdO b2 (0, 0, 0, 0)] (tupA [cmdA (0, 0, 0, 0), SA [], I e]) := rl_
    obtain ⟨u, hu1, hu2⟩ := hres w0 G5 F a4.tmps w5 hst5 (frOn.gmono l5 hfr)
    rw [he23.2]
    exact ⟨u, hu1, .inl ⟨u, _, [], G5, rfl, ⟨Sub.refl _, rfl⟩, hu2, l1.trans (l2.trans (l4.trans l5)), hst5.sub (List.sublist_append_right _ _)⟩⟩
end Go.Proofs.YtplabpjkkcillaaDoor
