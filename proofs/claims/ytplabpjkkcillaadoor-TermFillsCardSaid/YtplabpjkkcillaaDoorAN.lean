/- Regions that draw their order and write more than once: every order is walked, and all of them end alike. No condition. -/
import Derived.Test.YtplabpjkkcillaaDoorAS
namespace Go.Proofs.YtplabpjkkcillaaDoor
set_option linter.unusedSimpArgs false
set_option linter.unusedVariables false
set_option linter.unusedSectionVars false
set_option maxHeartbeats 4000000
open Go Go.RowKit
section
variable {P : Program} {T0 : Gh} {N : Fz} {Q : Post} {fr : Fr} {M : List Own} {ops : Array Oper} {listed : Array Bool} {fuel : Nat}
theorem op_mono2 {o : Oper} {a : Act} {w : World} {K K' : Act → World → Prop} {Qc Qc' : Exit → Act → World → Prop} (hk : ∀ a w, K a w → K' a w) (hq : ∀ e a w, e ≠ .normal → Qc e a w → Qc' e a w) (h : o.wp P a w K Qc) : o.wp P a w K' Qc' := by
  unfold Oper.wp at h ⊢
  generalize (execOp a.eval o).run P w = r at *
  cases r with
  | ok n w' =>
    cases n <;> simp only [Oper.upon] at h ⊢ <;>
      first
        | exact hk _ _ h
        | exact Calls.mono h (fun e w'' he => by
            cases e
            · exact hk _ _ he
            · exact hq _ _ _ (by simp) he
            · obtain ⟨x, y, z⟩ := he; exact ⟨x, y, hq _ _ _ (by simp) z⟩)
        | exact Rows.mono h (fun _ _ he => hk _ _ he)
  | halt x w' => cases x <;> simp only [Oper.upon] at h ⊢ <;> first | exact hq _ _ _ (by simp) h | exact h
theorem wpAny_mono {md : Region.Mode} {Qc Qc' : Exit → Act → World → Prop} (hq : ∀ e a w, Qc e a w → Qc' e a w) : ∀ (fuel : Nat) (listed : Array Bool) (a : Act) (w : World), wpAny P md ops Qc fuel listed a w → wpAny P md ops Qc' fuel listed a w
  | 0, _, _, _, h => ⟨h.1, hq _ _ _ h.2⟩
  | fuel + 1, listed, a, w, h => by
    refine ⟨fun h0 => hq _ _ _ (h.1 h0), fun i hi => ?_⟩
    have h1 := h.2 i hi
    unfold wpOp at h1 ⊢
    cases ho : ops[i]? with
    | none => rw [ho] at h1; exact wpAny_mono hq fuel _ _ _ h1
    | some o =>
      rw [ho] at h1
      simp only at h1 ⊢
      split
      · rename_i hw; rw [if_pos hw] at h1
        exact h1.imp (fun h => op_mono2 (fun a w h => wpAny_mono hq fuel _ _ _ h) (fun e a w _ h => hq e a w h) h) (fun h => ⟨h.1, let ⟨x, y, z⟩ := h.2; ⟨x, y, hq _ _ _ z⟩⟩)
      · rename_i hw; rw [if_neg hw] at h1; exact wpAny_mono hq fuel _ _ _ h1
/-- every way ends in this -/
def joinQ (fr1 : Fr) (M1 : List Own) : Post := fun e fr M => e = .normal ∧ Weak fr fr1 ∧ List.Sublist M1 M
/-- whatever order is picked from here on -/
def AN (P : Program) (T0 : Gh) (N : Fz) (ops : Array Oper) (Q : Post) (fuel : Nat) (listed : Array Bool) (fr : Fr) (M : List Own) : Prop := ∀ w0 G F a w, Con T0 N w0 G F fr M a w → wpAny P .any ops (cQ T0 N w0 G F Q) fuel listed a w
def AllI : List Nat → (Nat → Prop) → Prop
  | [], _ => True
  | i :: l, p => p i ∧ AllI l p
theorem AllI.mem {p : Nat → Prop} : ∀ {l : List Nat}, AllI l p → ∀ i ∈ l, p i
  | [], _, i, hi => by cases hi
  | x :: l, h, i, hi => by
    rcases List.mem_cons.1 hi with rfl | hi
    · exact h.1
    · exact AllI.mem h.2 i hi
theorem ai_nil {p : Nat → Prop} : AllI [] p := trivial
theorem ai_cons {p : Nat → Prop} {i : Nat} {l : List Nat} (h : p i) (k : AllI l p) : AllI (i :: l) p := ⟨h, k⟩
/-- which operations may come up, told by lists -/
def depsB (s : List Bool) : List Edge → Bool
  | [] => true
  | e :: es => (!Region.binds .any e || s.getD e.on false) && depsB s es
def readyF (s : List Bool) : Nat → List Oper → List Bool → List Nat
  | k, o :: l, b :: r => bif !b && depsB s o.after.toList then k :: readyF s (k + 1) l r else readyF s (k + 1) l r
  | _, _, _ => []
theorem depsB_iff (s : List Bool) : ∀ es : List Edge, depsB s es = true ↔ ∀ e ∈ es, Region.binds .any e = true → s.getD e.on false = true
  | [] => by simp [depsB]
  | e :: es => by
    simp only [depsB, Bool.and_eq_true, depsB_iff s es, List.mem_cons, forall_eq_or_imp]
    cases Region.binds .any e <;> simp
theorem readyF_mem (s : List Bool) : ∀ (k : Nat) (l : List Oper) (r : List Bool) (i : Nat), i ∈ readyF s k l r ↔ ∃ j o, i = k + j ∧ l[j]? = some o ∧ r[j]? = some false ∧ depsB s o.after.toList = true
  | k, [], r, i => by simp [readyF]
  | k, o :: l, [], i => by simp [readyF]
  | k, o :: l, b :: r, i => by
    have ih := readyF_mem s (k + 1) l r i
    have hsplit : (∃ j o', i = k + j ∧ (o :: l)[j]? = some o' ∧ (b :: r)[j]? = some false ∧ depsB s o'.after.toList = true) ↔ (i = k ∧ b = false ∧ depsB s o.after.toList = true) ∨ ∃ j o', i = k + 1 + j ∧ l[j]? = some o' ∧ r[j]? = some false ∧ depsB s o'.after.toList = true := by
      constructor
      · rintro ⟨j, o', h1, h2, h3, h4⟩
        cases j with
        | zero => simp at h2 h3; subst h2; exact .inl ⟨by omega, h3, h4⟩
        | succ j => exact .inr ⟨j, o', by omega, by simpa using h2, by simpa using h3, h4⟩
      · rintro (⟨h1, h2, h3⟩ | ⟨j, o', h1, h2, h3, h4⟩)
        · exact ⟨0, o, by omega, rfl, by simp [h2], h3⟩
        · exact ⟨j + 1, o', by omega, by simpa using h2, by simpa using h3, h4⟩
    rw [hsplit, ← ih]
    have hu : readyF s k (o :: l) (b :: r) = (bif !b && depsB s o.after.toList then k :: readyF s (k + 1) l r else readyF s (k + 1) l r) := rfl
    rw [hu]
    cases hb : (!b && depsB s o.after.toList) with
    | true =>
      simp only [Bool.and_eq_true, Bool.not_eq_true'] at hb
      simp only [cond_true, List.mem_cons]
      constructor
      · rintro (h | h)
        · exact .inl ⟨h, hb.1, hb.2⟩
        · exact .inr h
      · rintro (h | h)
        · exact .inl h.1
        · exact .inr h
    | false =>
      simp only [cond_false]
      constructor
      · exact fun h => .inr h
      · rintro (h | h)
        · simp [h.2.1, h.2.2] at hb
        · exact h
theorem ready_F (l : List Oper) (s : List Bool) (i : Nat) : i ∈ Region.ready .any l.toArray s.toArray ↔ i ∈ readyF s 0 l s := by
  rw [mem_ready, readyF_mem]
  constructor
  · rintro ⟨h1, o, h2, h3⟩
    refine ⟨i, o, by omega, by simpa using h2, ?_, (depsB_iff s _).2 fun e he hb => ?_⟩
    · rcases Nat.lt_or_ge i s.length with h | h
      · simp [h] at h1; simp [h, h1]
      · simp [List.getElem?_eq_none h] at h1
    · have := h3 e (by simpa using he) hb
      simpa using this
  · rintro ⟨j, o, h1, h2, h3, h4⟩
    obtain rfl : i = j := by omega
    refine ⟨by simp [h3], o, by simpa using h2, fun e he hb => ?_⟩
    have := (depsB_iff s _).1 h4 e (by simpa using he) hb
    simpa using this
def AtI (P : Program) (T0 : Gh) (N : Fz) (l : List Oper) (Q : Post) (fuel : Nat) (s : List Bool) (fr : Fr) (M : List Own) (i : Nat) : Prop := ∃ o, l[i]? = some o ∧ AL P T0 N false l.toArray (thenA (AN P T0 N l.toArray Q fuel (s.set i true).toArray) Q) [o] fr M
theorem an_all {l : List Oper} {s : List Bool} {L : List Nat} (hL : readyF s 0 l s = L) (hne : L.isEmpty = false) (h : AllI L (AtI P T0 N l Q fuel s fr M)) : AN P T0 N l.toArray Q (fuel + 1) s.toArray fr M := fun w0 G F a w hc => by
  subst hL
  refine ⟨fun h0 => ?_, fun i hi => ?_⟩
  · cases hL : readyF s 0 l s with
    | nil => rw [hL] at hne; cases hne
    | cons i r =>
      have := (ready_F l s i).2 (by rw [hL]; exact List.mem_cons_self)
      rw [h0] at this; cases this
  obtain ⟨o, ho, hal⟩ := h.mem i ((ready_F l s i).1 hi)
  simp only [AL, Bool.false_eq_true, if_false] at hal
  have h1 := hal w0 G F a w hc
  rw [List.setIfInBounds_toArray]
  have hnext : ∀ a' w', cQ T0 N w0 G F (thenA (AN P T0 N l.toArray Q fuel (s.set i true).toArray) Q) .normal a' w' → wpAny P .any l.toArray (cQ T0 N w0 G F Q) fuel (s.set i true).toArray a' w' := fun a' w' ⟨fr', M', G', q1, q2, q3⟩ =>
    wpAny_mono (fun _ _ _ q => q.mono (fun _ _ _ h => h) q2) _ _ _ _ ((show AN P T0 N l.toArray Q fuel (s.set i true).toArray fr' M' from q1) w0 G' F a' w' q3)
  have hexit : ∀ e a' w', cQ T0 N w0 G F (thenA (AN P T0 N l.toArray Q fuel (s.set i true).toArray) Q) e a' w' → e ≠ .normal → cQ T0 N w0 G F Q e a' w' := fun e a' w' ⟨fr', M', G', q1, q2, q3⟩ hne' => by
    refine ⟨fr', M', G', ?_, q2, q3⟩
    cases e with
    | normal => exact absurd rfl hne'
    | _ => exact q1
  have ho' : l.toArray[i]? = some o := by simpa using ho
  unfold wpOp; rw [ho']
  unfold wpList at h1
  simp only
  split at h1
  · rename_i hw; rw [if_pos hw]
    exact h1.imp (fun h => op_mono2 (fun a w h => hnext a w h) (fun e a w hne h => hexit e a w h hne) h) (fun h => ⟨h.1, let ⟨x, y, z⟩ := h.2; ⟨x, y, hexit _ _ _ z (by simp)⟩⟩)
  · rename_i hw; rw [if_neg hw]; exact hnext _ _ h1
theorem an_end {l : List Oper} {s : List Bool} (h : Q .normal fr M) (hL : (readyF s 0 l s).isEmpty = true) : AN P T0 N l.toArray Q fuel s.toArray fr M := fun w0 G F a w hc => by
  have hL' : Region.ready .any l.toArray s.toArray = [] := by
    rw [List.eq_nil_iff_forall_not_mem]
    intro i hi
    rw [ready_F, List.isEmpty_iff.1 hL] at hi; cases hi
  cases fuel with
  | zero => exact ⟨hL', fr, M, G, h, Gh.le.refl _, hc⟩
  | succ n => exact ⟨fun _ => ⟨fr, M, G, h, Gh.le.refl _, hc⟩, fun i hi => by rw [hL'] at hi; cases hi⟩
theorem aw_regionN {id : Nat} {l : List Oper} {d1 : Fr} {M1 : List Own} (hn : noisyB l = true) (hm : P.follows .mixedOrders = true) (h : AN P T0 N l.toArray (joinQ (d1 ++ fr) M1) l.length (List.replicate l.length false).toArray fr M) (k : Q .normal (d1 ++ fr) M1) : AW P T0 N (.region id l.toArray true) Q fr M := fun w0 G F a w hc =>
  wp_region_any hm (by
    have h1 := h w0 G F a _ ⟨hc.st.drew, hc.fr, hc.size, hc.defers⟩
    simp only [List.size_toArray]
    have e : Array.replicate l.length false = (List.replicate l.length false).toArray := by simp
    rw [e]
    refine wpAny_mono (fun e a' w' q => ?_) _ _ _ _ h1
    obtain ⟨fr', M', G', ⟨rfl, hw, hs⟩, hl, hc'⟩ := q
    exact ⟨d1 ++ fr, M1, G', k, hl, hc'.st.sub (hs.append (List.Sublist.refl F)), hw G' a'.tmps hc'.fr, hc'.size, hc'.defers⟩)
theorem at_i {l : List Oper} {s : List Bool} {i : Nat} {o : Oper} (ho : l[i]? = some o) (h : AL P T0 N false l.toArray (thenA (AN P T0 N l.toArray Q fuel (s.set i true).toArray) Q) [o] fr M) : AtI P T0 N l Q fuel s fr M i := ⟨o, ho, h⟩
/-- what is new in front of a frame -/
inductive Ext1 (base : Fr) : Fr → Fr → Prop
  | nil : Ext1 base base []
  | cons {s : Nat} {A : AV} {fr d : Fr} (h : Ext1 base fr d) : Ext1 base ((s, A) :: fr) ((s, A) :: d)
theorem ext1_ {base fr d : Fr} (h : Ext1 base fr d := by
  first
  | (repeat (first | exact Ext1.nil | apply Ext1.cons)
     done)
  | fail) : Ext1 base fr d := h
theorem Ext1.eq {base fr d : Fr} (h : Ext1 base fr d) : fr = d ++ base := by
  induction h with
  | nil => rfl
  | cons h ih => rw [ih]; rfl
/-- the first way to the end tells the end; the others are held against it -/
theorem j_first {fr0 fr' d : Fr} (h : Ext1 fr0 fr' d) : joinQ (d ++ fr0) M .normal fr' M := ⟨rfl, by rw [h.eq]; exact Weak.refl _, List.Sublist.refl _⟩
theorem j_next {fr0 fr' d : Fr} {l : List Nat} (h : ExtF fr0 fr' l) (hk : Weak fr' d) (hc : apartB (slots d) (slots fr0) l = true) : joinQ (d ++ fr0) M .normal fr' M :=
  ⟨rfl, weak_ext (d := []) h hk (by rw [hc]; simp [slots, apartB]), List.Sublist.refl _⟩
end
end Go.Proofs.YtplabpjkkcillaaDoor
