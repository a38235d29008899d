/- The logic's regions that draw their order: quiet operations, one of which may be late, and behind them a row that write. No condition. -/
import Derived.Test.YtgfmjmfphmjdkaaDoorR2AQ
namespace Go.Proofs.YtgfmjmfphmjdkaaDoor
set_option linter.unusedSimpArgs false
set_option linter.unusedVariables false
set_option linter.unusedSectionVars false
set_option maxHeartbeats 4000000
open Go Go.RowKit
set_option maxRecDepth 100000
section
variable {P : Program} {T0 : Gh} {N : Fz} {Q : Post} {fr : Fr} {M : List Own} {ops : Array Oper} {o : Oper}
def wpAnyU (P : Program) (T0 : Gh) (N : Fz) (md : Region.Mode) (ops : Array Oper) (L d : Nat) (ds : List Nat) (QB QC : Fr → Prop) (M : List Own) : Nat → Array Bool → Fr → Prop
  | 0, _, _ => False
  | fuel + 1, listed, fr => Region.ready md ops listed ≠ [] ∧ ∀ i ∈ Region.ready md ops listed, ∀ o, ops[i]? = some o →
      (i = L ∧ fuel = ds.length ∧ seqR md ops ds (listed.setIfInBounds i true) = true ∧ QB fr) ∨
      (i = L ∧ fuel = (d :: ds).length ∧ seqR md ops (d :: ds) (listed.setIfInBounds i true) = true ∧ QC fr) ∨
      (i ≠ L ∧ (∀ x, o.dst = some x → x < N.n) ∧ ∃ A, QY P T0 ops o fr M A ∧ wpAnyU P T0 N md ops L d ds QB QC M fuel (listed.setIfInBounds i true) (fr.put o.dst A))
theorem wpAny_of_U {md : Region.Mode} {L d : Nat} {ds : List Nat} {oL od : Oper} {os : List Oper} {QB QC : Fr → Prop} {w0 : World} {F : List Own} {G0 : Gh} {Qc : Exit → Act → World → Prop} (hoL : ops[L]? = some oL) (hos : ds.map (fun d => ops[d]?) = os.map some) (hod : ops[d]? = some od)
    (hQ : ∀ fr' G a w, Gh.le G0 G → QB fr' → Con T0 N w0 G F fr' M a w → wpList P ops Qc (oL :: os) a w)
    (hC : ∀ fr' G a w, Gh.le G0 G → QC fr' → Con T0 N w0 G F fr' M a w → wpList P ops Qc (oL :: od :: os) a w) : ∀ (fuel : Nat) (listed : Array Bool) (fr : Fr) (G : Gh) (a : Act) (w : World), Gh.le G0 G → Con T0 N w0 G F fr M a w →
    wpAnyU P T0 N md ops L d ds QB QC M fuel listed fr → wpAny P md ops Qc fuel listed a w
  | 0, _, _, _, _, _, _, _, h => h.elim
  | fuel + 1, listed, fr, G, a, w, hl, hc, h => by
    refine ⟨fun h0 => absurd h0 h.1, fun i hi => ?_⟩
    unfold wpOp
    have hosd : (d :: ds).map (fun d => ops[d]?) = (od :: os).map some := by simp only [List.map_cons, hos, hod]
    cases ho : ops[i]? with
    | none => have := (mem_ready.1 hi).2; rw [ho] at this; obtain ⟨_, e, _⟩ := this; cases e
    | some o =>
      rcases h.2 i hi o ho with ⟨rfl, rfl, hB, hq⟩ | ⟨rfl, rfl, hB, hq⟩ | ⟨_, hd, A, hy, hr⟩
      · rw [ho] at hoL; obtain rfl := Option.some.inj hoL
        have h3 := hQ fr G a w hl hq hc
        unfold wpList at h3
        simp only
        split at h3
        · rename_i hw
          rw [if_pos hw]
          exact h3.imp (fun h => op_mono (fun a w h => wpAny_seq ds os _ a w hos hB h) h) (fun h => h)
        · rename_i hw
          rw [if_neg hw]
          exact wpAny_seq ds os _ _ _ hos hB h3
      · rw [ho] at hoL; obtain rfl := Option.some.inj hoL
        have h3 := hC fr G a w hl hq hc
        unfold wpList at h3
        simp only
        split at h3
        · rename_i hw
          rw [if_pos hw]
          exact h3.imp (fun h => op_mono (fun a w h => wpAny_seq (d :: ds) (od :: os) _ a w hosd hB h) h) (fun h => h)
        · rename_i hw
          rw [if_neg hw]
          exact wpAny_seq (d :: ds) (od :: os) _ _ _ hosd hB h3
      · obtain ⟨h1, h2⟩ := hy w0 G F a w hc.st (fun s A _ e => hc.fr s A trivial e)
        simp only
        by_cases hw : Region.wanted o (yielded ops a.tmps) = true
        · rw [if_pos hw]
          refine .inl (h1 hw _ _ fun G' u w' hl' hs hu => ?_)
          exact wpAny_of_U hoL hos hod hQ hC fuel _ _ G' _ w' (hl.trans hl') (hc.put hl' hs hd hu) hr
        · rw [if_neg hw]
          exact wpAny_of_U hoL hos hod hQ hC fuel _ _ G _ w hl (hc.put (Gh.le.refl _) hc.st hd (h2 (by simpa using hw))) hr
theorem wpAnyU_same {md : Region.Mode} {L d : Nat} {ds : List Nat} {QB QC : Fr → Prop} (hQ : ∀ fr fr' : Fr, (∀ s, fr'.get s = fr.get s) → QB fr → QB fr') (hQC : ∀ fr fr' : Fr, (∀ s, fr'.get s = fr.get s) → QC fr → QC fr') : ∀ (fuel : Nat) (listed : Array Bool) (fr fr' : Fr), (∀ s, fr'.get s = fr.get s) → wpAnyU P T0 N md ops L d ds QB QC M fuel listed fr → wpAnyU P T0 N md ops L d ds QB QC M fuel listed fr'
  | 0, _, _, _, _, h => h
  | fuel + 1, listed, fr, fr', he, h => by
    refine ⟨h.1, fun i hi o ho => ?_⟩
    rcases h.2 i hi o ho with ⟨h1, h2, h3, h4⟩ | ⟨h1, h2, h3, h4⟩ | ⟨h1, hd, A, hy, hr⟩
    · exact .inl ⟨h1, h2, h3, hQ fr fr' he h4⟩
    · exact .inr (.inl ⟨h1, h2, h3, hQC fr fr' he h4⟩)
    · refine .inr (.inr ⟨h1, hd, A, hy.other (fun s _ => he s), wpAnyU_same hQ hQC fuel _ _ _ (fun s => ?_) hr⟩)
      cases hdst : o.dst with
      | none => exact he s
      | some d =>
        by_cases e : s = d
        · subst e; simp only [Fr.put, get_cons_same]
        · simp only [Fr.put, get_cons_ne e]; exact he s
/-- each operation ahead of L, but d, is one that a later one (but d) waits for, L at the latest -/
def lastU (d L : Nat) (md : Region.Mode) (ops : Array Oper) : Bool := (List.range L).all fun i => Nat.beq i d || (List.range (L + 1)).any fun k => decide (i < k) && !Nat.beq k d && (ops[k]?).any fun o => o.after.any fun e => Region.binds md e && e.on == i
theorem lastU_spec {d L : Nat} {md : Region.Mode} (h : lastU d L md ops = true) {i : Nat} (hi : i < L) (hid : i ≠ d) : ∃ k o, i < k ∧ k ≤ L ∧ k ≠ d ∧ ops[k]? = some o ∧ ∃ e ∈ o.after, Region.binds md e = true ∧ e.on = i := by
  have := List.all_eq_true.1 h i (List.mem_range.2 hi)
  rw [nbeq_ne hid, Bool.false_or] at this
  obtain ⟨k, hk, h2⟩ := List.any_eq_true.1 this
  simp only [Bool.and_eq_true, decide_eq_true_eq, Bool.not_eq_true'] at h2
  obtain ⟨⟨h3, h3'⟩, h4⟩ := h2
  cases ho : ops[k]? with
  | none => rw [ho] at h4; cases h4
  | some o =>
    rw [ho] at h4
    simp only [Option.any_some, Array.any_eq_true, Bool.and_eq_true, beq_iff_eq] at h4
    obtain ⟨n, hn, h5, h6⟩ := h4
    exact ⟨k, o, h3, by have := List.mem_range.1 hk; omega, fun e => by (subst e; simp at h3'), ho, _, Array.getElem_mem hn, h5, h6⟩
theorem lastU_all {d L : Nat} {md : Region.Mode} {listed : Array Bool} (hS : Shut md ops listed) (hlast : lastU d L md ops = true) (hL : L ∈ Region.ready md ops listed) : ∀ n i, L - i = n → i < L → i ≠ d → listed.getD i false = true := by
  intro n
  induction n using Nat.strongRecOn with
  | _ n ih =>
    intro i hn hi hid
    obtain ⟨k, o, h1, h2', hkd, h2, e, h3, h4, h5⟩ := lastU_spec hlast hi hid
    by_cases hkL : k = L
    · obtain ⟨_, o', ho', hall⟩ := mem_ready.1 hL
      rw [← hkL, h2] at ho'; obtain rfl := Option.some.inj ho'
      rw [← h5]; exact hall e h3 h4
    · have := ih (L - k) (by omega) k rfl (by omega) hkd
      rw [← h5]; exact hS k o h2 this e h3 h4
/-- the first of these waits for d -/
def headU (md : Region.Mode) (ops : Array Oper) (d : Nat) : List Nat → Bool
  | [] => true
  | e :: _ => (ops[e]?).any fun o => o.after.any fun x => Region.binds md x && x.on == d
theorem headU_spec {md : Region.Mode} {d e : Nat} {ds : List Nat} (h : headU md ops d (e :: ds) = true) : ∃ o, ops[e]? = some o ∧ ∃ x ∈ o.after, Region.binds md x = true ∧ x.on = d := by
  simp only [headU] at h
  cases ho : ops[e]? with
  | none => rw [ho] at h; cases h
  | some o =>
    rw [ho] at h
    simp only [Option.any_some, Array.any_eq_true, Bool.and_eq_true, beq_iff_eq] at h
    obtain ⟨n, hn, h5, h6⟩ := h
    exact ⟨o, rfl, _, Array.getElem_mem hn, h5, h6⟩
theorem wpAnyU_first {md : Region.Mode} {L d : Nat} {ds : List Nat} {QB QC : Fr → Prop} (hQ : ∀ fr fr' : Fr, (∀ s, fr'.get s = fr.get s) → QB fr → QB fr') (hQC : ∀ fr fr' : Fr, (∀ s, fr'.get s = fr.get s) → QC fr → QC fr') (hlast : lastU d L md ops = true) (hhead : headU md ops d ds = true) {i : Nat} {oi : Oper} {A : AV} (hi : ops[i]? = some oi) (hiL : i < L) (hdi : ∀ x, oi.dst = some x → x < N.n)
    (hBC : i = d → ∀ fr, QB (fr.put oi.dst A) → QC fr) :
    ∀ (fuel : Nat) (listed : Array Bool) (fr : Fr),
      (∀ j oj, ops[j]? = some oj → j ≠ i → listed.getD j true = false → (∀ e ∈ oj.after, Region.binds md e = true → e.on ≠ i) → oi.apart ops oj = true) →
      Shut md ops listed → i ∈ Region.ready md ops listed → QY P T0 ops oi fr M A →
      wpAnyU P T0 N md ops L d ds QB QC M fuel (listed.setIfInBounds i true) (fr.put oi.dst A) → wpAnyU P T0 N md ops L d ds QB QC M (fuel + 1) listed fr := by
  intro fuel
  induction fuel with
  | zero => intro listed fr _ _ hr hy H; exact H.elim
  | succ fuel ih =>
    intro listed fr hfree hS hr hy H
    refine ⟨fun h => (by rw [h] at hr; cases hr), fun j hj o ho => ?_⟩
    by_cases hji : j = i
    · subst hji; rw [hi] at ho; obtain rfl := Option.some.inj ho; exact .inr (.inr ⟨by omega, hdi, A, hy, H⟩)
    · obtain ⟨hjun, oj, hoj, hall⟩ := mem_ready.1 hj
      rw [ho] at hoj; obtain rfl := Option.some.inj hoj
      have hnot : ∀ e ∈ o.after, Region.binds md e = true → e.on ≠ i := fun e he hb heq => by
        have h1 := hall e he hb
        rw [heq] at h1
        exact not_ready_of hr h1
      by_cases hjL : j = L
      · subst hjL
        by_cases hid : i = d
        · subst hid
          have hri : i ∈ Region.ready md ops (listed.setIfInBounds j true) := ready_mono hr (Ne.symm hji)
          rcases H.2 _ (ready_mono hj hji) o ho with ⟨_, h2, h3, h4⟩ | ⟨_, h2, h3, h4⟩ | ⟨h1, _⟩
          · refine .inr (.inl ⟨rfl, by simp only [List.length_cons]; omega, ?_, hBC rfl fr h4⟩)
            rw [Array.setIfInBounds_comm _ _ (Ne.symm hji)] at h3
            simp only [seqR, Bool.and_eq_true]
            refine ⟨⟨by simpa using hri, List.all_eq_true.2 fun k hk => ?_⟩, h3⟩
            by_cases hki : k = i
            · subst hki; exact Nat.beq_refl _
            · have hk2 := ready_mono hk hki
              cases ds with
              | nil =>
                simp only [seqR] at h3
                have : Region.ready md ops ((listed.setIfInBounds j true).setIfInBounds i true) = [] := by simpa using h3
                rw [this] at hk2; cases hk2
              | cons e ds =>
                simp only [seqR, Bool.and_eq_true] at h3
                obtain rfl := Nat.eq_of_beq_eq_true (List.all_eq_true.1 h3.1.2 k hk2)
                obtain ⟨oe, he1, x, hx1, hx2, hx3⟩ := headU_spec hhead
                obtain ⟨_, oe', he1', hall'⟩ := mem_ready.1 hk
                rw [he1] at he1'; obtain rfl := Option.some.inj he1'
                have := hall' x hx1 hx2
                rw [hx3] at this
                exact (not_ready_of hri this).elim
          · simp only [seqR, Bool.and_eq_true] at h3
            have h5 : i ∈ Region.ready md ops ((listed.setIfInBounds i true).setIfInBounds j true) := by simpa using h3.1.1
            rw [Array.setIfInBounds_comm _ _ (Ne.symm hji)] at h5
            exact (not_ready_set h5).elim
          · exact absurd rfl h1
        · exact (not_ready_of hr (lastU_all hS hlast hj _ i rfl hiL hid)).elim
      · rcases H.2 j (ready_mono hj hji) o ho with ⟨h1, _⟩ | ⟨h1, _⟩ | ⟨_, hd, A', hy', hr'⟩
        · exact absurd h1 hjL
        · exact absurd h1 hjL
        obtain ⟨p1, p2, p3⟩ := Oper.apart_spec (hfree j o ho hji hjun hnot)
        have hfree' : ∀ k ok, ops[k]? = some ok → k ≠ i → (listed.setIfInBounds j true).getD k true = false →
            (∀ e ∈ ok.after, Region.binds md e = true → e.on ≠ i) → oi.apart ops ok = true := fun k ok hk hki hun hno => by
          refine hfree k ok hk hki ?_ hno
          by_cases hjk : j = k
          · subst hjk; exact hjun
          · rw [getD_set_ne true hjk] at hun; exact hun
        refine .inr (.inr ⟨hjL, hd, A', hy'.other (fun s hs => (get_put_ne fun x hx e => p1 x hx (e ▸ hs)).symm), ?_⟩)
        refine ih (listed.setIfInBounds j true) _ hfree' (hS.put hj) (ready_mono hr (Ne.symm hji)) (hy.other fun s hs => get_put_ne fun x hx e => p3 x hx (e ▸ hs)) ?_
        rw [Array.setIfInBounds_comm _ _ hji]
        exact wpAnyU_same hQ hQC fuel _ _ _ (fun s => put_put_get (fun x hx e => p2 x (by rw [← e]) hx |>.elim) s) hr'
theorem wpAnyU_lex {md : Region.Mode} {L d : Nat} {ds : List Nat} {QB QC : Fr → Prop} (hQ : ∀ fr fr' : Fr, (∀ s, fr'.get s = fr.get s) → QB fr → QB fr') (hQC : ∀ fr fr' : Fr, (∀ s, fr'.get s = fr.get s) → QC fr → QC fr') (hlast : lastU d L md ops = true) (hhead : headU md ops d ds = true) (hBC : ∀ od, ops[d]? = some od → ∀ fr A, QB (fr.put od.dst A) → QC fr) : ∀ (l : List Oper) (k : Nat) (listed : Array Bool) (fr : Fr), k + l.length ≤ L → (∀ j, j < l.length → l[j]? = ops[k + j]?) →
    lexT md ops L ds l.length k listed = true → Shut md ops listed → AQ P T0 N ops QB M l fr → wpAnyU P T0 N md ops L d ds QB QC M (l.length + (ds.length + 1)) listed fr
  | [], k, listed, fr, _, _, hB, hS, h => by
    simp only [List.length_nil, lexT, seqR, Bool.and_eq_true] at hB
    obtain ⟨⟨b1, b2⟩, b3⟩ := hB
    have r1 : L ∈ Region.ready md ops listed := by simpa using b1
    rw [List.length_nil, Nat.zero_add]
    refine ⟨fun e => (by rw [e] at r1; cases r1), fun i hi oi hoi => ?_⟩
    obtain rfl := Nat.eq_of_beq_eq_true (List.all_eq_true.1 b2 i hi)
    exact .inl ⟨rfl, rfl, b3, h⟩
  | o :: l, k, listed, fr, hL, hl, hB, hS, h => by
    simp only [List.length_cons] at hL
    have h0 : ops[k]? = some o := by simpa using (hl 0 (by simp)).symm
    have hl' : ∀ j, j < l.length → l[j]? = ops[k + 1 + j]? := fun j hj => by have := hl (j + 1) (by simp; omega); simpa [Nat.add_assoc, Nat.add_comm 1 j] using this
    simp only [List.length_cons, lexT, Bool.and_eq_true] at hB
    obtain ⟨⟨hr, hf⟩, hB'⟩ := hB
    have hr' : k ∈ Region.ready md ops listed := by simpa using hr
    obtain ⟨hd, A, hy, hr2⟩ := h
    rw [List.length_cons, show l.length + 1 + (ds.length + 1) = (l.length + (ds.length + 1)) + 1 by omega]
    refine wpAnyU_first hQ hQC hlast hhead h0 (by omega) hd (fun e fr hq => by subst e; exact hBC o h0 fr A hq) _ listed fr (Region.free_spec h0 hf) hS hr' hy ?_
    exact wpAnyU_lex hQ hQC hlast hhead hBC l (k + 1) _ _ (by omega) hl' hB' (hS.put hr') hr2
def endU (P : Program) (T0 : Gh) (N : Fz) (ops : Array Oper) (oL od : Oper) (os : List Oper) (sd : Nat) (base : Fr) (Q : Post) : Post := fun e fr' M' => e = .normal ∧ AL P T0 N false ops Q (oL :: os) fr' M' ∧ ∃ frD, DelF sd base fr' frD ∧ AL P T0 N false ops Q (oL :: od :: os) frD M'
theorem endU_ {oL od : Oper} {os : List Oper} {sd : Nat} {base fr' frD : Fr} {M' : List Own} (h1 : AL P T0 N false ops Q (oL :: os) fr' M') (h3 : AL P T0 N false ops Q (oL :: od :: os) frD M') (h2 : DelF sd base fr' frD := by first | exact delf_ | fail) : endU P T0 N ops oL od os sd base Q .normal fr' M' := ⟨rfl, h1, frD, h2, h3⟩
theorem aw_regionU {id : Nat} {l : List Oper} (d n : Nat) {oL od : Oper} {os : List Oper} {sd : Nat} (hs : l.drop n = oL :: os) (hod : l[d]? = some od) (hsd : od.dst = some sd) (hD : lastU d n .any l.toArray = true) (hH : headU .any l.toArray d (fromN (l.length - (n + 1)) (n + 1)) = true) (hB : lexT .any l.toArray n (fromN (l.length - (n + 1)) (n + 1)) n 0 (List.replicate l.length false).toArray = true) (hg : ((l.take n).all fun o => o.guard.isNone) = true) (hm : P.follows .mixedOrders = true)
    (hb : fr.get sd = none)
    (h : AL P T0 N true nopOps (endU P T0 N l.toArray oL od os sd fr Q) (l.take n) fr M) : AW P T0 N (.region id l.toArray true) Q fr M := fun w0 G F a w hc => by
  have h' : AQ2 P T0 N nopOps (fun fr' => endU P T0 N l.toArray oL od os sd fr Q .normal fr' M) (fun o fr' => lastB .any nopOps = true ∧ AE P T0 N nopOps (endU P T0 N l.toArray oL od os sd fr Q) [o] fr' M) M (l.take n) fr := by simpa [AL] using h
  rcases aq2_split _ _ h' with h1 | h1
  case inr => obtain ⟨_, _, _, hlast, _⟩ := aqb_some _ _ h1; rw [nopOps_last] at hlast; cases hlast
  have hlen : l.length = n + (os.length + 1) := by
    have := congrArg List.length hs
    simp only [List.length_drop, List.length_cons] at this; omega
  have hgd : ∀ j, l[n + j]? = (oL :: os)[j]? := fun j => by rw [← hs, List.getElem?_drop]
  have hoL : l.toArray[n]? = some oL := by simpa using hgd 0
  have hod' : l.toArray[d]? = some od := by simpa using hod
  have hos : (fromN os.length (n + 1)).map (fun d => l.toArray[d]?) = os.map some := fromN_get l os (n + 1) fun j _ => by
    have := hgd (j + 1)
    rw [show n + 1 + j = n + (j + 1) by omega, this]; simp
  rw [show l.length - (n + 1) = os.length by omega] at hB hH
  have htl : (l.take n).length = n := by rw [List.length_take]; omega
  have h2 := aq_plain (ops := l.toArray) _ _ hg (aq_close _ _ h1)
  have h3 := wpAnyU_lex (md := .any) (L := n) (d := d) (ds := fromN os.length (n + 1)) (QB := fun fr' => ∃ fr1, (∀ s, Fr.get fr' s = Fr.get fr1 s) ∧ endU P T0 N l.toArray oL od os sd fr Q .normal fr1 M) (QC := fun fr' => ∃ fr1, (∀ s, s ≠ sd → Fr.get fr' s = Fr.get fr1 s) ∧ endU P T0 N l.toArray oL od os sd fr Q .normal fr1 M)
    (fun fr fr' he h => by obtain ⟨fr1, h1, h2⟩ := h; exact ⟨fr1, fun s => (he s).trans (h1 s), h2⟩) (fun fr fr' he h => by obtain ⟨fr1, h1, h2⟩ := h; exact ⟨fr1, fun s hs => (he s).trans (h1 s hs), h2⟩) hD hH
    (fun o ho fr2 A hq => by
      rw [hod'] at ho; obtain rfl := Option.some.inj ho
      obtain ⟨fr1, h1, h2⟩ := hq
      exact ⟨fr1, fun s hs => by rw [← h1 s, hsd]; exact (get_cons_ne hs).symm, h2⟩) (l.take n) 0 (List.replicate l.length false).toArray fr (by omega)
    (fun j hj => by rw [htl] at hj; simp [List.getElem?_take, hj]) (by rw [htl]; exact hB) (by simpa using shut_none (md := .any) (ops := l.toArray) l.length) h2
  rw [htl, fromN_len, ← hlen] at h3
  refine wp_region_any hm ?_
  have es : Array.replicate l.toArray.size false = (List.replicate l.length false).toArray := by simp
  rw [es]
  refine wpAny_of_U (G0 := G) (F := F) (w0 := w0) hoL hos hod' ?_ ?_ _ _ fr G _ _ (Gh.le.refl _) ⟨hc.st.drew, hc.fr, hc.size, hc.defers⟩ (by simpa using h3)
  · rintro fr' G' a' w' hl' ⟨fr1, he, _, hq, _⟩ hc'
    simp only [AL, Bool.false_eq_true, if_false] at hq
    exact wpList_mono (fun _ _ _ q => q.mono (fun _ _ _ h => h) hl') _ _ _ (hq w0 G' F a' w' ⟨hc'.st, fun s A hs e => hc'.fr s A hs (by rw [he s]; exact e), hc'.size, hc'.defers⟩)
  · rintro fr' G' a' w' hl' ⟨fr1, he, _, _, frD, hdel, hq⟩ hc'
    simp only [AL, Bool.false_eq_true, if_false] at hq
    refine wpList_mono (fun _ _ _ q => q.mono (fun _ _ _ h => h) hl') _ _ _ (hq w0 G' F a' w' ⟨hc'.st, fun s A hs e => ?_, hc'.size, hc'.defers⟩)
    obtain ⟨e1, e2⟩ := hdel.spec hb s A e
    exact hc'.fr s A hs (by rw [he s e1]; exact e2)
end
end Go.Proofs.YtgfmjmfphmjdkaaDoor
