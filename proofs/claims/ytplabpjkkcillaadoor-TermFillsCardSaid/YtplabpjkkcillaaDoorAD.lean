/- Regions that draw their order, whose last operation does not wait for one idle operation (an answer that is left): both orders are walked. No condition. -/
import Derived.Test.YtplabpjkkcillaaDoorAN
namespace Go.Proofs.YtplabpjkkcillaaDoor
set_option linter.unusedSimpArgs false
set_option linter.unusedVariables false
set_option linter.unusedSectionVars false
set_option maxHeartbeats 4000000
open Go Go.RowKit
section
variable {P : Program} {T0 : Gh} {N : Fz} {Q : Post} {fr : Fr} {M : List Own} {ops : Array Oper}
/-- each operation but the writing one (L) and the idle one (d) is one that a later one waits for, which is not the idle one -/
def lastD (d L : Nat) (md : Region.Mode) (ops : Array Oper) : Bool := (List.range ops.size).all fun i => Nat.beq i d || Nat.beq i L || (List.range ops.size).any fun k => decide (i < k) && !Nat.beq k d && (ops[k]?).any fun o => o.after.any fun e => Region.binds md e && e.on == i
theorem lastD_spec {d L : Nat} {md : Region.Mode} (h : lastD d L md ops = true) {i : Nat} (hi : i < ops.size) (hiL : i ≠ L) (hid : i ≠ d) : ∃ k o, i < k ∧ k ≠ d ∧ ops[k]? = some o ∧ ∃ e ∈ o.after, Region.binds md e = true ∧ e.on = i := by
  have := List.all_eq_true.1 h i (List.mem_range.2 hi)
  rw [nbeq_ne hid, nbeq_ne hiL, Bool.false_or, Bool.false_or] at this
  obtain ⟨k, _, h2⟩ := List.any_eq_true.1 this
  simp only [Bool.and_eq_true, decide_eq_true_eq, Bool.not_eq_true'] at h2
  obtain ⟨⟨h3, h3'⟩, h4⟩ := h2
  cases ho : ops[k]? with
  | none => rw [ho] at h4; cases h4
  | some o =>
    rw [ho] at h4
    simp only [Option.any_some, Array.any_eq_true, Bool.and_eq_true, beq_iff_eq] at h4
    obtain ⟨n, hn, h5, h6⟩ := h4
    exact ⟨k, o, h3, fun e => by (subst e; simp at h3'), ho, _, Array.getElem_mem hn, h5, h6⟩
theorem lastD_all {d L : Nat} {md : Region.Mode} {listed : Array Bool} (hS : Shut md ops listed) (hlast : lastD d L md ops = true) (hL : L ∈ Region.ready md ops listed) : ∀ n i, ops.size - i = n → i < ops.size → i ≠ L → i ≠ d → listed.getD i false = true := by
  intro n
  induction n using Nat.strongRecOn with
  | _ n ih =>
    intro i hn hi hiL hid
    obtain ⟨k, o, h1, hkd, h2, e, h3, h4, h5⟩ := lastD_spec hlast hi hiL hid
    have hk : k < ops.size := (Array.getElem?_eq_some_iff.1 h2).1
    by_cases hkL : k = L
    · obtain ⟨_, o', ho', hall⟩ := mem_ready.1 hL
      rw [← hkL, h2] at ho'; obtain rfl := Option.some.inj ho'
      rw [← h5]; exact hall e h3 h4
    · have := ih (ops.size - k) (by omega) k rfl (by omega) hkL hkd
      rw [← h5]; exact hS k o h2 this e h3 h4
def wpAnyC (P : Program) (T0 : Gh) (N : Fz) (md : Region.Mode) (ops : Array Oper) (L d : Nat) (QB QC : Fr → Prop) (M : List Own) : Nat → Array Bool → Fr → Prop
  | 0, _, _ => False
  | fuel + 1, listed, fr => Region.ready md ops listed ≠ [] ∧ ∀ i ∈ Region.ready md ops listed, ∀ o, ops[i]? = some o →
      (i = L ∧ fuel = 0 ∧ Region.ready md ops (listed.setIfInBounds i true) = [] ∧ QB fr) ∨
      (i = L ∧ fuel = 1 ∧ d ∈ Region.ready md ops (listed.setIfInBounds i true) ∧ (∀ k ∈ Region.ready md ops (listed.setIfInBounds i true), k = d) ∧ Region.ready md ops ((listed.setIfInBounds i true).setIfInBounds d true) = [] ∧ QC fr) ∨
      (i ≠ L ∧ (∀ x, o.dst = some x → x < N.n) ∧ ∃ A, QY P T0 ops o fr M A ∧ wpAnyC P T0 N md ops L d QB QC M fuel (listed.setIfInBounds i true) (fr.put o.dst A))
/-- the two ways to the end -/
theorem wpAny_of_C {md : Region.Mode} {L d : Nat} {oL od : Oper} {QB QC : Fr → Prop} {w0 : World} {F : List Own} {G0 : Gh} {Qc : Exit → Act → World → Prop} (hoL : ops[L]? = some oL) (hod : ops[d]? = some od)
    (hQ : ∀ fr' G a w, Gh.le G0 G → QB fr' → Con T0 N w0 G F fr' M a w → wpList P ops Qc [oL] a w)
    (hC : ∀ fr' G a w, Gh.le G0 G → QC fr' → Con T0 N w0 G F fr' M a w → wpList P ops Qc [oL, od] a w) : ∀ (fuel : Nat) (listed : Array Bool) (fr : Fr) (G : Gh) (a : Act) (w : World), Gh.le G0 G → Con T0 N w0 G F fr M a w →
    wpAnyC P T0 N md ops L d QB QC M fuel listed fr → wpAny P md ops Qc fuel listed a w
  | 0, _, _, _, _, _, _, _, h => h.elim
  | fuel + 1, listed, fr, G, a, w, hl, hc, h => by
    refine ⟨fun h0 => absurd h0 h.1, fun i hi => ?_⟩
    unfold wpOp
    cases ho : ops[i]? with
    | none => have := (mem_ready.1 hi).2; rw [ho] at this; obtain ⟨_, e, _⟩ := this; cases e
    | some o =>
      rcases h.2 i hi o ho with ⟨rfl, rfl, hnone, hq⟩ | ⟨rfl, rfl, hdr, hall, hnone, hq⟩ | ⟨_, hd, A, hy, hr⟩
      · rw [ho] at hoL; obtain rfl := Option.some.inj hoL
        have h3 := hQ fr G a w hl hq hc
        simp only
        unfold wpList at h3
        split at h3
        · rename_i hw
          rw [if_pos hw]
          exact h3.imp (fun h => op_mono (fun a w h => ⟨hnone, h⟩) h) (fun h => h)
        · rename_i hw
          rw [if_neg hw]
          exact ⟨hnone, h3⟩
      · rw [ho] at hoL; obtain rfl := Option.some.inj hoL
        have h3 := hC fr G a w hl hq hc
        have hcont : ∀ a w, wpList P ops Qc [od] a w → wpAny P md ops Qc 1 (listed.setIfInBounds i true) a w := fun a w h4 => by
          refine ⟨fun h0 => (by rw [h0] at hdr; cases hdr), fun k hk => ?_⟩
          obtain rfl := hall k hk
          unfold wpOp
          rw [hod]
          unfold wpList at h4
          simp only
          split at h4
          · rename_i hw
            rw [if_pos hw]
            exact h4.imp (fun h => op_mono (fun a w h => ⟨hnone, h⟩) h) (fun h => h)
          · rename_i hw
            rw [if_neg hw]
            exact ⟨hnone, h4⟩
        unfold wpList at h3
        simp only
        split at h3
        · rename_i hw
          rw [if_pos hw]
          exact h3.imp (fun h => op_mono (fun a w h => hcont a w h) h) (fun h => h)
        · rename_i hw
          rw [if_neg hw]
          exact hcont _ _ h3
      · obtain ⟨h1, h2⟩ := hy w0 G F a w hc.st (fun s A _ e => hc.fr s A trivial e)
        simp only
        by_cases hw : Region.wanted o (yielded ops a.tmps) = true
        · rw [if_pos hw]
          refine .inl (h1 hw _ _ fun G' u w' hl' hs hu => ?_)
          exact wpAny_of_C hoL hod hQ hC fuel _ _ G' _ w' (hl.trans hl') (hc.put hl' hs hd hu) hr
        · rw [if_neg hw]
          exact wpAny_of_C hoL hod hQ hC fuel _ _ G _ w hl (hc.put (Gh.le.refl _) hc.st hd (h2 (by simpa using hw))) hr
theorem wpAnyC_same {md : Region.Mode} {L d : Nat} {QB QC : Fr → Prop} (hQ : ∀ fr fr' : Fr, (∀ s, fr'.get s = fr.get s) → QB fr → QB fr') (hQC : ∀ fr fr' : Fr, (∀ s, fr'.get s = fr.get s) → QC fr → QC fr') : ∀ (fuel : Nat) (listed : Array Bool) (fr fr' : Fr), (∀ s, fr'.get s = fr.get s) → wpAnyC P T0 N md ops L d QB QC M fuel listed fr → wpAnyC P T0 N md ops L d QB QC M fuel listed fr'
  | 0, _, _, _, _, h => h
  | fuel + 1, listed, fr, fr', he, h => by
    refine ⟨h.1, fun i hi o ho => ?_⟩
    rcases h.2 i hi o ho with ⟨h1, h2, h3, h4⟩ | ⟨h1, h2, h3, h4, h5, h6⟩ | ⟨h1, hd, A, hy, hr⟩
    · exact .inl ⟨h1, h2, h3, hQ fr fr' he h4⟩
    · exact .inr (.inl ⟨h1, h2, h3, h4, h5, hQC fr fr' he h6⟩)
    · refine .inr (.inr ⟨h1, hd, A, hy.other (fun s _ => he s), wpAnyC_same hQ hQC fuel _ _ _ (fun s => ?_) hr⟩)
      cases hdst : o.dst with
      | none => exact he s
      | some d =>
        by_cases e : s = d
        · subst e; simp only [Fr.put, get_cons_same]
        · simp only [Fr.put, get_cons_ne e]; exact he s
theorem not_ready_set {md : Region.Mode} {listed : Array Bool} {i : Nat} (h : i ∈ Region.ready md ops (listed.setIfInBounds i true)) : False := by
  have h1 := (mem_ready.1 h).1
  rcases Nat.lt_or_ge i listed.size with h' | h'
  · simp [h'] at h1
  · simp [h'] at h1
theorem not_ready_of {md : Region.Mode} {listed : Array Bool} {i : Nat} (h : i ∈ Region.ready md ops listed) (h1 : listed.getD i false = true) : False := by
  have h0 := (mem_ready.1 h).1
  rcases Nat.lt_or_ge i listed.size with h' | h'
  · simp [h'] at h0 h1; rw [h0] at h1; cases h1
  · simp [Array.getElem?_eq_none h'] at h1
theorem wpAnyC_first {md : Region.Mode} {d L : Nat} {QB QC : Fr → Prop} (hQ : ∀ fr fr' : Fr, (∀ s, fr'.get s = fr.get s) → QB fr → QB fr') (hQC : ∀ fr fr' : Fr, (∀ s, fr'.get s = fr.get s) → QC fr → QC fr') (hlast : lastD d L md ops = true) {i : Nat} {oi : Oper} {A : AV} (hi : ops[i]? = some oi) (hiL : i ≠ L) (hdi : ∀ x, oi.dst = some x → x < N.n)
    (hBC : i = d → ∀ fr, QB (fr.put oi.dst A) → QC fr) :
    ∀ (fuel : Nat) (listed : Array Bool) (fr : Fr),
      (∀ j oj, ops[j]? = some oj → j ≠ i → listed.getD j true = false → (∀ e ∈ oj.after, Region.binds md e = true → e.on ≠ i) → oi.apart ops oj = true) →
      Shut md ops listed → i ∈ Region.ready md ops listed → QY P T0 ops oi fr M A →
      wpAnyC P T0 N md ops L d QB QC M fuel (listed.setIfInBounds i true) (fr.put oi.dst A) → wpAnyC P T0 N md ops L d QB QC M (fuel + 1) listed fr := by
  intro fuel
  induction fuel with
  | zero => intro listed fr _ _ hr hy H; exact H.elim
  | succ fuel ih =>
    intro listed fr hfree hS hr hy H
    refine ⟨fun h => (by rw [h] at hr; cases hr), fun j hj o ho => ?_⟩
    by_cases hji : j = i
    · subst hji; rw [hi] at ho; obtain rfl := Option.some.inj ho; exact .inr (.inr ⟨hiL, hdi, A, hy, H⟩)
    · obtain ⟨hjun, oj, hoj, hall⟩ := mem_ready.1 hj
      rw [ho] at hoj; obtain rfl := Option.some.inj hoj
      have hnot : ∀ e ∈ o.after, Region.binds md e = true → e.on ≠ i := fun e he hb heq => by
        have h1 := hall e he hb
        rw [heq] at h1
        exact not_ready_of hr h1
      by_cases hjL : j = L
      · subst hjL
        by_cases hid : i = d
        · rcases H.2 _ (ready_mono hj hji) o ho with ⟨_, h2, h3, h4⟩ | ⟨_, h2, h3, h4, h5, h6⟩ | ⟨h1, _⟩
          · subst hid
            refine .inr (.inl ⟨rfl, by omega, ready_mono hr (Ne.symm hji), fun k hk => ?_, ?_, hBC rfl fr h4⟩)
            · by_cases hki : k = i
              · exact hki
              · have := ready_mono hk hki
                rw [Array.setIfInBounds_comm _ _ hji, h3] at this; cases this
            · rw [Array.setIfInBounds_comm _ _ hji]; exact h3
          · subst hid
            have := not_ready_set (md := md) (ops := ops) (listed := listed.setIfInBounds j true) (i := i) (by rw [Array.setIfInBounds_comm _ _ hji]; exact h3)
            exact this.elim
          · exact absurd rfl h1
        · exact (not_ready_of hr (lastD_all hS hlast hj _ i rfl (Array.getElem?_eq_some_iff.1 hi).1 hiL hid)).elim
      · rcases H.2 j (ready_mono hj hji) o ho with ⟨h1, _⟩ | ⟨h1, _⟩ | ⟨_, hd, A', hy', hr'⟩
        · exact absurd h1 hjL
        · exact absurd h1 hjL
        obtain ⟨p1, p2, p3⟩ := Oper.apart_spec (hfree j o ho hji hjun hnot)
        have hfree' : ∀ k ok, ops[k]? = some ok → k ≠ i → (listed.setIfInBounds j true).getD k true = false →
            (∀ e ∈ ok.after, Region.binds md e = true → e.on ≠ i) → oi.apart ops ok = true := fun k ok hk hki hun hno => by
          refine hfree k ok hk hki ?_ hno
          by_cases hjk : j = k
          · subst hjk; exact hjun
          · rw [getD_set_ne true hjk] at hun; exact hun
        refine .inr (.inr ⟨hjL, hd, A', hy'.other (fun s hs => (get_put_ne fun x hx e => p1 x hx (e ▸ hs)).symm), ?_⟩)
        refine ih (listed.setIfInBounds j true) _ hfree' (hS.put hj) (ready_mono hr (Ne.symm hji)) (hy.other fun s hs => get_put_ne fun x hx e => p3 x hx (e ▸ hs)) ?_
        rw [Array.setIfInBounds_comm _ _ hji]
        exact wpAnyC_same hQ hQC fuel _ _ _ (fun s => put_put_get (fun x hx e => p2 x (by rw [← e]) hx |>.elim) s) hr'
/-- the operations but one, in the text's order, may each come first -/
def lexSkip (md : Region.Mode) (ops : Array Oper) (L : Nat) : Nat → Nat → Array Bool → Bool
  | 0, _, listed => (Region.ready md ops listed).contains L && (Region.ready md ops (listed.setIfInBounds L true)).isEmpty
  | fuel + 1, k, listed => bif Nat.beq k L then lexSkip md ops L fuel (k + 1) listed else (Region.ready md ops listed).contains k && Region.free md ops listed k && lexSkip md ops L fuel (k + 1) (listed.setIfInBounds k true)
def skipL : Nat → List Oper → List Oper
  | _, [] => []
  | 0, _ :: l => l
  | n + 1, o :: l => o :: skipL n l
/-- the others from the place k on -/
def skipF (L k : Nat) (l : List Oper) : List Oper := if k ≤ L then skipL (L - k) l else l
theorem wpAnyC_lex {md : Region.Mode} {d L : Nat} {QB QC : Fr → Prop} (hQ : ∀ fr fr' : Fr, (∀ s, fr'.get s = fr.get s) → QB fr → QB fr') (hQC : ∀ fr fr' : Fr, (∀ s, fr'.get s = fr.get s) → QC fr → QC fr') (hlast : lastD d L md ops = true) (hBC : ∀ od, ops[d]? = some od → ∀ fr A, QB (fr.put od.dst A) → QC fr) : ∀ (l : List Oper) (k : Nat) (listed : Array Bool) (fr : Fr), (∀ j, l[j]? = ops[k + j]?) →
    lexSkip md ops L l.length k listed = true → Shut md ops listed → AQ P T0 N ops QB M (skipF L k l) fr → wpAnyC P T0 N md ops L d QB QC M ((skipF L k l).length + 1) listed fr
  | [], k, listed, fr, _, hB, hS, h => by
    simp only [List.length_nil, lexSkip, Bool.and_eq_true] at hB
    obtain ⟨hr, he⟩ := hB
    have hr' : L ∈ Region.ready md ops listed := by simpa using hr
    have he' : Region.ready md ops (listed.setIfInBounds L true) = [] := by simpa using he
    have e : skipF L k [] = [] := by unfold skipF; split <;> (try rfl); cases L - k <;> rfl
    rw [e] at h ⊢
    refine ⟨fun e => (by rw [e] at hr'; cases hr'), fun i hi oi hoi => ?_⟩
    by_cases hik : i = L
    · subst hik
      exact .inl ⟨rfl, rfl, he', h⟩
    · have := ready_mono hi hik
      rw [he'] at this; cases this
  | o :: l, k, listed, fr, hl, hB, hS, h => by
    have h0 : ops[k]? = some o := by simpa using (hl 0).symm
    have hl' : ∀ j, l[j]? = ops[k + 1 + j]? := fun j => by have := hl (j + 1); simpa [Nat.add_assoc, Nat.add_comm 1 j] using this
    simp only [List.length_cons, lexSkip] at hB
    by_cases hkL : k = L
    · subst hkL
      have e : skipF k k (o :: l) = l := by unfold skipF; rw [if_pos (Nat.le_refl _), Nat.sub_self]; rfl
      have e2 : skipF k (k + 1) l = l := by unfold skipF; rw [if_neg (by omega)]
      rw [e] at h ⊢
      simp only [Nat.beq_refl, cond_true] at hB
      have := wpAnyC_lex hQ hQC hlast hBC l (k + 1) listed fr hl' hB hS (by rw [e2]; exact h)
      rw [e2] at this; exact this
    · have e : skipF L k (o :: l) = o :: skipF L (k + 1) l := by
        unfold skipF
        by_cases hle : k ≤ L
        · rw [if_pos hle, if_pos (by omega)]
          obtain ⟨m, hm⟩ : ∃ m, L - k = m + 1 := ⟨L - k - 1, by omega⟩
          rw [hm, show L - (k + 1) = m by omega]; rfl
        · rw [if_neg hle, if_neg (by omega)]
      rw [e] at h ⊢
      rw [nbeq_ne hkL] at hB
      simp only [cond_false, Bool.and_eq_true] at hB
      obtain ⟨⟨hr, hf⟩, hB'⟩ := hB
      have hr' : k ∈ Region.ready md ops listed := by simpa using hr
      obtain ⟨hd, A, hy, hr2⟩ := h
      refine wpAnyC_first hQ hQC hlast h0 hkL hd (fun e fr hq => by subst e; exact hBC o h0 fr A hq) _ listed fr (Region.free_spec h0 hf) hS hr' hy ?_
      exact wpAnyC_lex hQ hQC hlast hBC l (k + 1) _ _ hl' hB' (hS.put hr') hr2
/-- a frame without what it tells of a slot -/
inductive DelF (sd : Nat) (base : Fr) : Fr → Fr → Prop
  | base : DelF sd base base base
  | drop {A : AV} {fr frD : Fr} (h : DelF sd base fr frD) : DelF sd base ((sd, A) :: fr) frD
  | keep {s : Nat} {A : AV} {fr frD : Fr} (e : Nat.beq s sd = false) (h : DelF sd base fr frD) : DelF sd base ((s, A) :: fr) ((s, A) :: frD)
theorem DelF.spec {sd : Nat} {base fr frD : Fr} (h : DelF sd base fr frD) (hb : base.get sd = none) : ∀ s A, frD.get s = some A → s ≠ sd ∧ fr.get s = some A := by
  induction h with
  | base => intro s A e; exact ⟨fun h => by (subst h; rw [hb] at e; cases e), e⟩
  | drop h ih =>
    intro s A e
    obtain ⟨h1, h2⟩ := ih s A e
    exact ⟨h1, by rw [get_cons_ne h1]; exact h2⟩
  | keep e0 h ih =>
    rename_i s0 A0 fr0 frD0
    intro s A e
    by_cases hs : s = s0
    · subst hs
      rw [get_cons_same] at e ⊢
      exact ⟨fun h => by (subst h; simp at e0), e⟩
    · rw [get_cons_ne hs] at e ⊢; exact ih s A e
theorem delf_ {sd : Nat} {base fr frD : Fr} (h : DelF sd base fr frD := by
  first
  | (repeat (first | exact DelF.base | apply DelF.drop | apply DelF.keep rfl)
     done)
  | fail) : DelF sd base fr frD := h
/-- the end of the quiet ones: the last one and the idle one, in both orders -/
def endD (P : Program) (T0 : Gh) (N : Fz) (ops : Array Oper) (oL od : Oper) (sd : Nat) (base : Fr) (J : Post) : Post := fun e fr' M' => e = .normal ∧ AL P T0 N false ops J [oL] fr' M' ∧ ∃ frD, DelF sd base fr' frD ∧ AL P T0 N false ops J [oL, od] frD M'
theorem endD_ {oL od : Oper} {sd : Nat} {base fr' frD : Fr} {J : Post} {M' : List Own} (h1 : AL P T0 N false ops J [oL] fr' M') (h3 : AL P T0 N false ops J [oL, od] frD M') (h2 : DelF sd base fr' frD := by first | exact delf_ | fail) : endD P T0 N ops oL od sd base J .normal fr' M' := ⟨rfl, h1, frD, h2, h3⟩
theorem aw_regionD {id : Nat} {l : List Oper} (d L : Nat) {oL od : Oper} {sd : Nat} {d1 : Fr} {M1 : List Own} (hN : lastB .any l.toArray = false) (hD : lastD d L .any l.toArray = true) (hB : lexSkip .any l.toArray L l.length 0 (List.replicate l.length false).toArray = true) (hm : P.follows .mixedOrders = true)
    (hod : l[d]? = some od) (hl : l[L]? = some oL) (hn : (skipL L l).length + 1 = l.length) (hsd : od.dst = some sd) (hb : fr.get sd = none)
    (h : AL P T0 N true l.toArray (endD P T0 N l.toArray oL od sd fr (joinQ (d1 ++ fr) M1)) (skipL L l) fr M)
    (k : Q .normal (d1 ++ fr) M1) : AW P T0 N (.region id l.toArray true) Q fr M := fun w0 G F a w hc => by
  have h' : AQ2 P T0 N l.toArray (fun fr' => endD P T0 N l.toArray oL od sd fr (joinQ (d1 ++ fr) M1) .normal fr' M) (fun o fr' => lastB .any l.toArray = true ∧ AE P T0 N l.toArray (endD P T0 N l.toArray oL od sd fr (joinQ (d1 ++ fr) M1)) [o] fr' M) M (skipL L l) fr := by simpa [AL] using h
  rcases aq2_split _ _ h' with h1 | h1
  case inr => obtain ⟨_, _, _, hlast, _⟩ := aqb_some _ _ h1; rw [hN] at hlast; cases hlast
  have hoL : l.toArray[L]? = some oL := by simpa using hl
  have e0 : skipF L 0 l = skipL L l := by unfold skipF; rw [if_pos (Nat.zero_le _), Nat.sub_zero]
  have h2 := aq_close _ _ h1
  have hod' : l.toArray[d]? = some od := by simpa using hod
  have h3 := wpAnyC_lex (md := .any) (d := d) (L := L) (QB := fun fr' => ∃ fr1, (∀ s, Fr.get fr' s = Fr.get fr1 s) ∧ endD P T0 N l.toArray oL od sd fr (joinQ (d1 ++ fr) M1) .normal fr1 M) (QC := fun fr' => ∃ fr1, (∀ s, s ≠ sd → Fr.get fr' s = Fr.get fr1 s) ∧ endD P T0 N l.toArray oL od sd fr (joinQ (d1 ++ fr) M1) .normal fr1 M)
    (fun fr fr' he h => by obtain ⟨fr1, h1, h2⟩ := h; exact ⟨fr1, fun s => (he s).trans (h1 s), h2⟩) (fun fr fr' he h => by obtain ⟨fr1, h1, h2⟩ := h; exact ⟨fr1, fun s hs => (he s).trans (h1 s hs), h2⟩) hD
    (fun o ho fr2 A hq => by
      rw [hod'] at ho; obtain rfl := Option.some.inj ho
      obtain ⟨fr1, h1, h2⟩ := hq
      exact ⟨fr1, fun s hs => by rw [← h1 s, hsd]; exact (get_cons_ne hs).symm, h2⟩) l 0 (List.replicate l.length false).toArray fr (by simp) hB (by simpa using shut_none (md := .any) (ops := l.toArray) l.length) (by rw [e0]; exact h2)
  rw [e0, hn] at h3
  have hfin : ∀ a w G', Gh.le G G' → cQ T0 N w0 G' F (joinQ (d1 ++ fr) M1) .normal a w → cQ T0 N w0 G F Q .normal a w := fun a w G' hl q => by
    obtain ⟨fr', M', G2, ⟨_, hw, hs⟩, hl2, hc'⟩ := q
    exact ⟨d1 ++ fr, M1, G2, k, hl.trans hl2, hc'.st.sub (hs.append (List.Sublist.refl F)), hw G2 a.tmps hc'.fr, hc'.size, hc'.defers⟩
  have hmono : ∀ G', Gh.le G G' → ∀ e a w, cQ T0 N w0 G' F (joinQ (d1 ++ fr) M1) e a w → cQ T0 N w0 G F Q e a w := fun G' hl e a w q => by
    obtain ⟨fr', M', G2, ⟨he, hw, hs⟩, hl2, hc'⟩ := q
    subst he
    exact hfin a w G' hl ⟨fr', M', G2, ⟨rfl, hw, hs⟩, hl2, hc'⟩
  refine wp_region_any hm ?_
  have es : Array.replicate l.toArray.size false = (List.replicate l.length false).toArray := by simp
  rw [es]
  refine wpAny_of_C (G0 := G) (F := F) (w0 := w0) hoL hod' ?_ ?_ _ _ fr G _ _ (Gh.le.refl _) ⟨hc.st.drew, hc.fr, hc.size, hc.defers⟩ (by simpa using h3)
  · rintro fr' G' a' w' hl' ⟨fr1, he, _, hq, _⟩ hc'
    simp only [AL, Bool.false_eq_true, if_false] at hq
    exact wpList_mono (hmono G' hl') _ _ _ (hq w0 G' F a' w' ⟨hc'.st, fun s A hs e => hc'.fr s A hs (by rw [he s]; exact e), hc'.size, hc'.defers⟩)
  · rintro fr' G' a' w' hl' ⟨fr1, he, _, _, frD, hdel, hq⟩ hc'
    simp only [AL, Bool.false_eq_true, if_false] at hq
    refine wpList_mono (hmono G' hl') _ _ _ (hq w0 G' F a' w' ⟨hc'.st, fun s A hs e => ?_, hc'.size, hc'.defers⟩)
    obtain ⟨e1, e2⟩ := hdel.spec hb s A e
    exact hc'.fr s A hs (by rw [he s e1]; exact e2)
/-! ### quiet ones, and two that write, one behind the other -/
def nop : Oper := { dst := none, op := .move (.const (.bool false)), type := 0, pos := "", after := #[], guard := none }
/-- operations none of which is a last one -/
def nopOps : Array Oper := #[nop, nop]
theorem nopOps_last : lastB .any nopOps = false := by decide +kernel
theorem QY.plain {ops' : Array Oper} {o : Oper} {A : AV} (hg : o.guard = none) (h : QY P T0 ops' o fr M A) : QY P T0 ops o fr M A := fun w0 G F a w hs hf => by
  have hr : ∀ s, reads ops' o s → reads ops o s := fun s hs => by
    simp only [reads, Oper.looksAt, hg] at hs ⊢; exact hs
  obtain ⟨h1, h2⟩ := h w0 G F a w hs (fun s A hs' e => hf s A (hr s hs') e)
  have hw : ∀ y, Region.wanted o y = true := fun y => by simp [Region.wanted, hg]
  exact ⟨fun _ => h1 (hw _), fun e => by rw [hw] at e; cases e⟩
theorem aq_plain {ops' : Array Oper} {QA : Fr → Prop} : ∀ (l : List Oper) (fr : Fr), (l.all fun o => o.guard.isNone) = true → AQ P T0 N ops' QA M l fr → AQ P T0 N ops QA M l fr
  | [], _, _, h => h
  | o :: l, fr, hg, h => by
    simp only [List.all_cons, Bool.and_eq_true] at hg
    obtain ⟨hd, A, hy, hr⟩ := h
    exact ⟨hd, A, hy.plain (by simpa using hg.1), aq_plain l _ hg.2 hr⟩
def lexSeq (md : Region.Mode) (ops : Array Oper) (L d : Nat) : Nat → Nat → Array Bool → Bool
  | 0, _, listed => (Region.ready md ops listed).contains L && ((Region.ready md ops listed).all fun k => Nat.beq k L) && (Region.ready md ops (listed.setIfInBounds L true)).contains d && ((Region.ready md ops (listed.setIfInBounds L true)).all fun k => Nat.beq k d) && (Region.ready md ops ((listed.setIfInBounds L true).setIfInBounds d true)).isEmpty
  | fuel + 1, k, listed => (Region.ready md ops listed).contains k && Region.free md ops listed k && lexSeq md ops L d fuel (k + 1) (listed.setIfInBounds k true)
theorem wpAnyC_seq {md : Region.Mode} {d L : Nat} {QB QC : Fr → Prop} (hQ : ∀ fr fr' : Fr, (∀ s, fr'.get s = fr.get s) → QB fr → QB fr') (hQC : ∀ fr fr' : Fr, (∀ s, fr'.get s = fr.get s) → QC fr → QC fr') (hlast : lastD d L md ops = true) : ∀ (l : List Oper) (k : Nat) (listed : Array Bool) (fr : Fr), k + l.length ≤ L → k + l.length ≤ d → (∀ j, j < l.length → l[j]? = ops[k + j]?) →
    lexSeq md ops L d l.length k listed = true → Shut md ops listed → AQ P T0 N ops QC M l fr → wpAnyC P T0 N md ops L d QB QC M (l.length + 2) listed fr
  | [], k, listed, fr, _, _, _, hB, hS, h => by
    simp only [List.length_nil, lexSeq, Bool.and_eq_true] at hB
    obtain ⟨⟨⟨⟨b1, b2⟩, b3⟩, b4⟩, b5⟩ := hB
    have r1 : L ∈ Region.ready md ops listed := by simpa using b1
    have r3 : d ∈ Region.ready md ops (listed.setIfInBounds L true) := by simpa using b3
    have r2 : ∀ k ∈ Region.ready md ops listed, k = L := fun k hk => Nat.eq_of_beq_eq_true (List.all_eq_true.1 b2 k hk)
    have r4 : ∀ k ∈ Region.ready md ops (listed.setIfInBounds L true), k = d := fun k hk => Nat.eq_of_beq_eq_true (List.all_eq_true.1 b4 k hk)
    have r5 : Region.ready md ops ((listed.setIfInBounds L true).setIfInBounds d true) = [] := by simpa using b5
    refine ⟨fun e => (by rw [e] at r1; cases r1), fun i hi oi hoi => ?_⟩
    obtain rfl := r2 i hi
    exact .inr (.inl ⟨rfl, rfl, r3, r4, r5, h⟩)
  | o :: l, k, listed, fr, hL, hd', hl, hB, hS, h => by
    simp only [List.length_cons] at hL hd'
    have h0 : ops[k]? = some o := by simpa using (hl 0 (by simp)).symm
    have hl' : ∀ j, j < l.length → l[j]? = ops[k + 1 + j]? := fun j hj => by have := hl (j + 1) (by simp; omega); simpa [Nat.add_assoc, Nat.add_comm 1 j] using this
    simp only [List.length_cons, lexSeq, Bool.and_eq_true] at hB
    obtain ⟨⟨hr, hf⟩, hB'⟩ := hB
    have hr' : k ∈ Region.ready md ops listed := by simpa using hr
    obtain ⟨hd, A, hy, hr2⟩ := h
    refine wpAnyC_first hQ hQC hlast h0 (by omega) hd (fun e => absurd e (by omega)) _ listed fr (Region.free_spec h0 hf) hS hr' hy ?_
    exact wpAnyC_seq hQ hQC hlast l (k + 1) _ _ (by omega) (by omega) hl' hB' (hS.put hr') hr2
def endS (P : Program) (T0 : Gh) (N : Fz) (ops : Array Oper) (oL od : Oper) (Q : Post) : Post := fun e fr' M' => e = .normal ∧ AL P T0 N false ops Q [oL, od] fr' M'
theorem endS_ {oL od : Oper} {fr' : Fr} {M' : List Own} (h : AL P T0 N false ops Q [oL, od] fr' M') : endS P T0 N ops oL od Q .normal fr' M' := ⟨rfl, h⟩
theorem aw_regionS0 {id : Nat} {l lq : List Oper} {oL od : Oper} (hl : l = lq ++ [oL, od]) (hD : lastD (l.length - 1) (l.length - 2) .any l.toArray = true) (hB : lexSeq .any l.toArray (l.length - 2) (l.length - 1) lq.length 0 (List.replicate l.length false).toArray = true) (hg : (lq.all fun o => o.guard.isNone) = true) (hm : P.follows .mixedOrders = true)
    (h : AL P T0 N true nopOps (endS P T0 N l.toArray oL od Q) lq fr M) : AW P T0 N (.region id l.toArray true) Q fr M := fun w0 G F a w hc => by
  have h' : AQ2 P T0 N nopOps (fun fr' => endS P T0 N l.toArray oL od Q .normal fr' M) (fun o fr' => lastB .any nopOps = true ∧ AE P T0 N nopOps (endS P T0 N l.toArray oL od Q) [o] fr' M) M lq fr := by simpa [AL] using h
  rcases aq2_split _ _ h' with h1 | h1
  case inr => obtain ⟨_, _, _, hlast, _⟩ := aqb_some _ _ h1; rw [nopOps_last] at hlast; cases hlast
  have hlen : l.length = lq.length + 2 := by rw [hl]; simp
  have e1 : l.length - 2 = lq.length := by omega
  have e2 : l.length - 1 = lq.length + 1 := by omega
  rw [e1, e2] at hD hB
  have hoL : l.toArray[lq.length]? = some oL := by rw [hl]; simp
  have hod : l.toArray[lq.length + 1]? = some od := by rw [hl]; simp
  have h2 := aq_plain (ops := l.toArray) _ _ hg (aq_close _ _ h1)
  have h3 := wpAnyC_seq (md := .any) (d := lq.length + 1) (L := lq.length) (QB := fun _ => False) (QC := fun fr' => ∃ fr1, (∀ s, Fr.get fr' s = Fr.get fr1 s) ∧ endS P T0 N l.toArray oL od Q .normal fr1 M)
    (fun fr fr' he h => h) (fun fr fr' he h => by obtain ⟨fr1, h1, h2⟩ := h; exact ⟨fr1, fun s => (he s).trans (h1 s), h2⟩) hD lq 0 (List.replicate l.length false).toArray fr (by omega) (by omega)
    (fun j hj => by rw [hl]; simp [List.getElem?_append_left hj]) hB (by simpa using shut_none (md := .any) (ops := l.toArray) l.length) h2
  refine wp_region_any hm ?_
  have es : Array.replicate l.toArray.size false = (List.replicate l.length false).toArray := by simp
  rw [es]
  refine wpAny_of_C (QB := fun _ => False) (QC := fun fr' => ∃ fr1, (∀ s, Fr.get fr' s = Fr.get fr1 s) ∧ endS P T0 N l.toArray oL od Q .normal fr1 M) (G0 := G) (F := F) (w0 := w0) hoL hod (fun _ _ _ _ _ hq => hq.elim) ?_ _ _ fr G _ _ (Gh.le.refl _) ⟨hc.st.drew, hc.fr, hc.size, hc.defers⟩ (by rw [← hlen] at h3; simpa using h3)
  rintro fr' G' a' w' hl' ⟨fr1, he, _, hq⟩ hc'
  simp only [AL, Bool.false_eq_true, if_false] at hq
  exact wpList_mono (fun _ _ _ q => q.mono (fun _ _ _ h => h) hl') _ _ _ (hq w0 G' F a' w' ⟨hc'.st, fun s A hs e => hc'.fr s A hs (by rw [he s]; exact e), hc'.size, hc'.defers⟩)
theorem aw_regionS {id : Nat} {l : List Oper} {oL od : Oper} (h2 : Nat.ble 2 l.length = true) (hoL : l[l.length - 2]? = some oL) (hod : l[l.length - 1]? = some od) (hD : lastD (l.length - 1) (l.length - 2) .any l.toArray = true) (hB : lexSeq .any l.toArray (l.length - 2) (l.length - 1) (l.length - 2) 0 (List.replicate l.length false).toArray = true) (hg : ((l.take (l.length - 2)).all fun o => o.guard.isNone) = true) (hm : P.follows .mixedOrders = true)
    (h : AL P T0 N true nopOps (endS P T0 N l.toArray oL od Q) (l.take (l.length - 2)) fr M) : AW P T0 N (.region id l.toArray true) Q fr M := by
  have hlen : 2 ≤ l.length := Nat.le_of_ble_eq_true h2
  obtain ⟨n, hn⟩ : ∃ n, l.length = n + 2 := ⟨l.length - 2, by omega⟩
  rw [show l.length - 2 = n by omega] at *
  rw [show l.length - 1 = n + 1 by omega] at *
  have e : l = l.take n ++ [oL, od] := by
    refine List.ext_getElem? fun j => ?_
    rw [List.getElem?_append, List.length_take, Nat.min_eq_left (by omega)]
    by_cases h1 : j < n
    · rw [if_pos h1, List.getElem?_take, if_pos h1]
    · rw [if_neg h1]
      by_cases h3 : j = n
      · subst h3; simpa using hoL
      · by_cases h4 : j = n + 1
        · subst h4; simpa using hod
        · rw [List.getElem?_eq_none (by omega), List.getElem?_eq_none (by simp; omega)]
  refine aw_regionS0 e (by rw [show l.length - 1 = n + 1 by omega, show l.length - 2 = n by omega]; exact hD) ?_ hg hm h
  rw [show l.length - 1 = n + 1 by omega, show l.length - 2 = n by omega, List.length_take, Nat.min_eq_left (by omega)]
  exact hB
end
end Go.Proofs.YtplabpjkkcillaaDoor
