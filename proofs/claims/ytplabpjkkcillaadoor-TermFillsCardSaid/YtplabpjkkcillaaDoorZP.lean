/- Several texts in one: see the comment ahead of each. No condition. -/
import Derived.Test.YtplabpjkkcillaaDoorZO
/- Regions that draw their order, in which new variables are made and written beside quiet operations. No condition. -/
namespace Go.Proofs.YtplabpjkkcillaaDoor
set_option linter.unusedSimpArgs false
set_option linter.unusedVariables false
set_option linter.unusedSectionVars false
set_option maxHeartbeats 4000000
open Go Go.RowKit
section
variable {P : Program} {T0 : Gh} {N : Fz} {Q : Post} {fr : Fr} {M : List Own} {ops : Array Oper}
theorem AO.other {o : Oper} {fr' : Fr} {K : AV → List Own → Prop} {KP : List PanicEntry → List Own → Prop} (h : AO P T0 ops o fr M K KP) (he : ∀ s, reads ops o s → fr'.get s = fr.get s) : AO P T0 ops o fr' M K KP := fun w0 G F a w next Qc hs hf hk hp =>
  h w0 G F a w next Qc hs (fun s A hr e => hf s A hr (by rw [he s hr]; exact e)) hk hp
/-- from here on: M stays, X is what is new -/
def wpAnyF (P : Program) (T0 : Gh) (N : Fz) (md : Region.Mode) (ops : Array Oper) (M : List Own) (QE : Fr → List Own → Prop) : Nat → Array Bool → Fr → List Own → Prop
  | 0, listed, fr, X => Region.ready md ops listed = [] ∧ QE fr X
  | fuel + 1, listed, fr, X => (Region.ready md ops listed = [] → QE fr X) ∧ ∀ i ∈ Region.ready md ops listed, ∀ o, ops[i]? = some o → (∀ x, o.dst = some x → x < N.n) ∧
      ((∃ A, QY P T0 ops o fr M A ∧ wpAnyF P T0 N md ops M QE fuel (listed.setIfInBounds i true) (fr.put o.dst A) X) ∨
       (o.guard = none ∧ ∃ K : AV → List Own → Prop, AO P T0 ops o fr X K (fun _ _ => False) ∧ ∀ A X', K A X' → wpAnyF P T0 N md ops M QE fuel (listed.setIfInBounds i true) (fr.put o.dst A) X'))
theorem wpAny_of_F {md : Region.Mode} {QE : Fr → List Own → Prop} {w0 : World} {F : List Own} {G0 : Gh} {Qc : Exit → Act → World → Prop}
    (hQ : ∀ fr' X G a w, Gh.le G0 G → QE fr' X → Con T0 N w0 G F fr' (X ++ M) a w → Qc .normal a w) : ∀ (fuel : Nat) (listed : Array Bool) (fr : Fr) (X : List Own) (G : Gh) (a : Act) (w : World), Gh.le G0 G → Con T0 N w0 G F fr (X ++ M) a w →
    wpAnyF P T0 N md ops M QE fuel listed fr X → wpAny P md ops Qc fuel listed a w
  | 0, _, _, _, _, _, _, hl, hc, h => ⟨h.1, hQ _ _ _ _ _ hl h.2 hc⟩
  | fuel + 1, listed, fr, X, G, a, w, hl, hc, h => by
    refine ⟨fun h0 => hQ _ _ _ _ _ hl (h.1 h0) hc, fun i hi => ?_⟩
    unfold wpOp
    cases ho : ops[i]? with
    | none => have := (mem_ready.1 hi).2; rw [ho] at this; obtain ⟨_, e, _⟩ := this; cases e
    | some o =>
      have hp : List.Perm (X ++ M ++ F) (M ++ (X ++ F)) := by
        rw [← List.append_assoc]; exact List.Perm.append_right F List.perm_append_comm
      obtain ⟨hd, ⟨A, hy, hr⟩ | ⟨hg, K, hao, hr⟩⟩ := h.2 i hi o ho
      · obtain ⟨h1, h2⟩ := hy w0 G (X ++ F) a w (hc.st.perm hp.symm) (fun s A _ e => hc.fr s A trivial e)
        simp only
        by_cases hw : Region.wanted o (yielded ops a.tmps) = true
        · rw [if_pos hw]
          refine .inl (h1 hw _ _ fun G' u w' hl' hs hu => ?_)
          exact wpAny_of_F hQ fuel _ _ _ G' _ w' (hl.trans hl') (hc.put hl' (hs.perm hp) hd hu) hr
        · rw [if_neg hw]
          exact wpAny_of_F hQ fuel _ _ _ G _ w hl (hc.put (Gh.le.refl _) hc.st hd (h2 (by simpa using hw))) hr
      · have hw : Region.wanted o (yielded ops a.tmps) = true := by simp [Region.wanted, hg]
        simp only
        rw [if_pos hw]
        refine .inl (hao w0 G (M ++ F) a w _ _ (by rw [← List.append_assoc]; exact hc.st) (fun s A _ e => hc.fr s A trivial e) (fun A X' G' u w' k hl' hs hu => ?_) (fun _ _ _ _ h => h.elim))
        exact wpAny_of_F hQ fuel _ _ _ G' _ w' (hl.trans hl') (hc.put hl' (by rw [List.append_assoc]; exact hs) hd hu) (hr A X' k)
theorem get_put_same {fr fr' : Fr} (he : ∀ s, fr'.get s = fr.get s) (d : Option Tmp) (A : AV) (s : Nat) : (fr'.put d A).get s = (fr.put d A).get s := by
  cases d with
  | none => exact he s
  | some d =>
    by_cases e : s = d
    · subst e; simp only [Fr.put, get_cons_same]
    · simp only [Fr.put, get_cons_ne e]; exact he s
theorem wpAnyF_same {md : Region.Mode} {QE : Fr → List Own → Prop} (hQ : ∀ (fr fr' : Fr) X, (∀ s, fr'.get s = fr.get s) → QE fr X → QE fr' X) : ∀ (fuel : Nat) (listed : Array Bool) (fr fr' : Fr) (X : List Own), (∀ s, fr'.get s = fr.get s) → wpAnyF P T0 N md ops M QE fuel listed fr X → wpAnyF P T0 N md ops M QE fuel listed fr' X
  | 0, _, fr, fr', X, he, h => ⟨h.1, hQ fr fr' X he h.2⟩
  | fuel + 1, listed, fr, fr', X, he, h => by
    refine ⟨fun h0 => hQ fr fr' X he (h.1 h0), fun i hi o ho => ?_⟩
    obtain ⟨hd, ⟨A, hy, hr⟩ | ⟨hg, K, hao, hr⟩⟩ := h.2 i hi o ho
    · exact ⟨hd, .inl ⟨A, hy.other (fun s _ => he s), wpAnyF_same hQ fuel _ _ _ _ (get_put_same he _ _) hr⟩⟩
    · exact ⟨hd, .inr ⟨hg, K, hao.other (fun s _ => he s), fun A X' k => wpAnyF_same hQ fuel _ _ _ _ (get_put_same he _ _) (hr A X' k)⟩⟩
theorem wpAnyF_first {md : Region.Mode} {QE : Fr → List Own → Prop} (hQ : ∀ (fr fr' : Fr) X, (∀ s, fr'.get s = fr.get s) → QE fr X → QE fr' X) {i : Nat} {oi : Oper} {A : AV} (hi : ops[i]? = some oi) (hdi : ∀ x, oi.dst = some x → x < N.n) :
    ∀ (fuel : Nat) (listed : Array Bool) (fr : Fr) (X : List Own),
      (∀ j oj, ops[j]? = some oj → j ≠ i → listed.getD j true = false → (∀ e ∈ oj.after, Region.binds md e = true → e.on ≠ i) → oi.apart ops oj = true) →
      i ∈ Region.ready md ops listed → QY P T0 ops oi fr M A →
      wpAnyF P T0 N md ops M QE fuel (listed.setIfInBounds i true) (fr.put oi.dst A) X → wpAnyF P T0 N md ops M QE (fuel + 1) listed fr X := by
  intro fuel
  induction fuel with
  | zero =>
    intro listed fr X _ hr hy H
    refine ⟨fun h => (by rw [h] at hr; cases hr), fun j hj o ho => ?_⟩
    by_cases hji : j = i
    · subst hji; rw [hi] at ho; obtain rfl := Option.some.inj ho; exact ⟨hdi, .inl ⟨A, hy, H⟩⟩
    · have := ready_mono hj hji
      rw [H.1] at this; cases this
  | succ fuel ih =>
    intro listed fr X hfree hr hy H
    refine ⟨fun h => (by rw [h] at hr; cases hr), fun j hj o ho => ?_⟩
    by_cases hji : j = i
    · subst hji; rw [hi] at ho; obtain rfl := Option.some.inj ho; exact ⟨hdi, .inl ⟨A, hy, H⟩⟩
    · obtain ⟨hjun, oj, hoj, hall⟩ := mem_ready.1 hj
      rw [ho] at hoj; obtain rfl := Option.some.inj hoj
      have hnot : ∀ e ∈ o.after, Region.binds md e = true → e.on ≠ i := fun e he hb heq => by
        have h1 := hall e he hb
        rw [heq] at h1
        exact not_ready_of hr h1
      obtain ⟨p1, p2, p3⟩ := Oper.apart_spec (hfree j o ho hji hjun hnot)
      have hfree' : ∀ k ok, ops[k]? = some ok → k ≠ i → (listed.setIfInBounds j true).getD k true = false →
          (∀ e ∈ ok.after, Region.binds md e = true → e.on ≠ i) → oi.apart ops ok = true := fun k ok hk hki hun hno => by
        refine hfree k ok hk hki ?_ hno
        by_cases hjk : j = k
        · subst hjk; exact hjun
        · rw [getD_set_ne true hjk] at hun; exact hun
      have hstep : ∀ A' X', wpAnyF P T0 N md ops M QE fuel ((listed.setIfInBounds i true).setIfInBounds j true) ((fr.put oi.dst A).put o.dst A') X' → wpAnyF P T0 N md ops M QE (fuel + 1) (listed.setIfInBounds j true) (fr.put o.dst A') X' := fun A' X' hr' => by
        refine ih (listed.setIfInBounds j true) _ X' hfree' (ready_mono hr (Ne.symm hji)) (hy.other fun s hs => get_put_ne fun x hx e => p3 x hx (e ▸ hs)) ?_
        rw [Array.setIfInBounds_comm _ _ hji]
        exact wpAnyF_same hQ fuel _ _ _ _ (fun s => put_put_get (fun x hx e => p2 x (by rw [← e]) hx |>.elim) s) hr'
      obtain ⟨hd, ⟨A', hy', hr'⟩ | ⟨hg, K, hao, hr'⟩⟩ := H.2 j (ready_mono hj hji) o ho
      · exact ⟨hd, .inl ⟨A', hy'.other (fun s hs => (get_put_ne fun x hx e => p1 x hx (e ▸ hs)).symm), hstep A' X hr'⟩⟩
      · exact ⟨hd, .inr ⟨hg, K, hao.other (fun s hs => (get_put_ne fun x hx e => p1 x hx (e ▸ hs)).symm), fun A' X' k => hstep A' X' (hr' A' X' k)⟩⟩
/-- the rest, one behind the other -/
def SeqF (P : Program) (T0 : Gh) (N : Fz) (ops : Array Oper) (M : List Own) (QE : Fr → List Own → Prop) : List Oper → Fr → List Own → Prop
  | [], fr, X => QE fr X
  | o :: os, fr, X => (∀ x, o.dst = some x → x < N.n) ∧
      ((∃ A, QY P T0 ops o fr M A ∧ SeqF P T0 N ops M QE os (fr.put o.dst A) X) ∨
       (o.guard = none ∧ ∃ K : AV → List Own → Prop, AO P T0 ops o fr X K (fun _ _ => False) ∧ ∀ A X', K A X' → SeqF P T0 N ops M QE os (fr.put o.dst A) X'))
theorem wpAnyF_seq {md : Region.Mode} {QE : Fr → List Own → Prop} : ∀ (ds : List Nat) (os : List Oper) (listed : Array Bool) (fr : Fr) (X : List Own), ds.map (fun d => ops[d]?) = os.map some → seqR md ops ds listed = true → SeqF P T0 N ops M QE os fr X → wpAnyF P T0 N md ops M QE ds.length listed fr X
  | [], [], listed, fr, X, _, hB, h => ⟨by simpa [seqR] using hB, h⟩
  | [], _ :: _, _, _, _, he, _, _ => by simp at he
  | _ :: _, [], _, _, _, he, _, _ => by simp at he
  | d :: ds, o :: os, listed, fr, X, he, hB, h => by
    simp only [List.map_cons, List.cons.injEq] at he
    simp only [seqR, Bool.and_eq_true] at hB
    obtain ⟨⟨b1, b2⟩, b3⟩ := hB
    have r1 : d ∈ Region.ready md ops listed := by simpa using b1
    refine ⟨fun h0 => (by rw [h0] at r1; cases r1), fun i hi o' ho' => ?_⟩
    obtain rfl := Nat.eq_of_beq_eq_true (List.all_eq_true.1 b2 i hi)
    rw [he.1] at ho'; obtain rfl := Option.some.inj ho'
    obtain ⟨hd, ⟨A, hy, hr⟩ | ⟨hg, K, hao, hr⟩⟩ := h
    · exact ⟨hd, .inl ⟨A, hy, wpAnyF_seq ds os _ _ _ he.2 b3 hr⟩⟩
    · exact ⟨hd, .inr ⟨hg, K, hao, fun A X' k => wpAnyF_seq ds os _ _ _ he.2 b3 (hr A X' k)⟩⟩
def lexF (md : Region.Mode) (ops : Array Oper) (ds : List Nat) : Nat → Nat → Array Bool → Bool
  | 0, _, listed => seqR md ops ds listed
  | fuel + 1, k, listed => (Region.ready md ops listed).contains k && Region.free md ops listed k && lexF md ops ds fuel (k + 1) (listed.setIfInBounds k true)
theorem wpAnyF_lex {md : Region.Mode} {ds : List Nat} {os : List Oper} {QE : Fr → List Own → Prop} (hQ : ∀ (fr fr' : Fr) X, (∀ s, fr'.get s = fr.get s) → QE fr X → QE fr' X) (hos : ds.map (fun d => ops[d]?) = os.map some) : ∀ (l : List Oper) (k : Nat) (listed : Array Bool) (fr : Fr), (∀ j, j < l.length → l[j]? = ops[k + j]?) →
    lexF md ops ds l.length k listed = true → AQ P T0 N ops (fun fr' => SeqF P T0 N ops M QE os fr' []) M l fr → wpAnyF P T0 N md ops M QE (l.length + ds.length) listed fr []
  | [], k, listed, fr, _, hB, h => by
    rw [List.length_nil, Nat.zero_add]
    exact wpAnyF_seq ds os listed fr [] hos hB h
  | o :: l, k, listed, fr, hl, hB, h => by
    have h0 : ops[k]? = some o := by simpa using (hl 0 (by simp)).symm
    have hl' : ∀ j, j < l.length → l[j]? = ops[k + 1 + j]? := fun j hj => by have := hl (j + 1) (by simp; omega); simpa [Nat.add_assoc, Nat.add_comm 1 j] using this
    simp only [List.length_cons, lexF, Bool.and_eq_true] at hB
    obtain ⟨⟨hr, hf⟩, hB'⟩ := hB
    have hr' : k ∈ Region.ready md ops listed := by simpa using hr
    obtain ⟨hd, A, hy, hr2⟩ := h
    rw [List.length_cons, show l.length + 1 + ds.length = (l.length + ds.length) + 1 by omega]
    exact wpAnyF_first hQ h0 hd _ listed fr [] (Region.free_spec h0 hf) hr' hy (wpAnyF_lex hQ hos l (k + 1) _ _ hl' hB' hr2)
theorem SeqF.same {QE : Fr → List Own → Prop} (hQ : ∀ (fr fr' : Fr) X, (∀ s, fr'.get s = fr.get s) → QE fr X → QE fr' X) : ∀ (os : List Oper) (fr fr' : Fr) (X : List Own), (∀ s, fr'.get s = fr.get s) → SeqF P T0 N ops M QE os fr X → SeqF P T0 N ops M QE os fr' X
  | [], fr, fr', X, he, h => hQ fr fr' X he h
  | o :: os, fr, fr', X, he, ⟨hd, h⟩ => by
    rcases h with ⟨A, hy, hr⟩ | ⟨hg, K, hao, hr⟩
    · exact ⟨hd, .inl ⟨A, hy.other (fun s _ => he s), SeqF.same hQ os _ _ _ (get_put_same he _ _) hr⟩⟩
    · exact ⟨hd, .inr ⟨hg, K, hao.other (fun s _ => he s), fun A X' k => SeqF.same hQ os _ _ _ (get_put_same he _ _) (hr A X' k)⟩⟩
def endF (P : Program) (T0 : Gh) (N : Fz) (ops : Array Oper) (M : List Own) (QE : Fr → List Own → Prop) (os : List Oper) : Post := fun e fr' _ => e = .normal ∧ SeqF P T0 N ops M QE os fr' []
theorem endF_ {QE : Fr → List Own → Prop} {os : List Oper} {fr' : Fr} {M' : List Own} (h : SeqF P T0 N ops M QE os fr' []) : endF P T0 N ops M QE os .normal fr' M' := ⟨rfl, h⟩
/-- n quiet operations, and behind them in the text some that make and write what is new -/
theorem aw_regionF {id : Nat} {l os : List Oper} (n : Nat) (hs : l.drop n = os) (hB : lexF .any l.toArray (fromN (l.length - n) n) n 0 (List.replicate l.length false).toArray = true) (hn : Nat.ble n l.length = true) (hg : ((l.take n).all fun o => o.guard.isNone) = true) (hm : P.follows .mixedOrders = true)
    (h : AL P T0 N true nopOps (endF P T0 N l.toArray M (fun fr' X => Q .normal fr' (X ++ M)) os) (l.take n) fr M) : AW P T0 N (.region id l.toArray true) Q fr M := fun w0 G F a w hc => by
  have h' : AQ2 P T0 N nopOps (fun fr' => endF P T0 N l.toArray M (fun fr' X => Q .normal fr' (X ++ M)) os .normal fr' M) (fun o fr' => lastB .any nopOps = true ∧ AE P T0 N nopOps (endF P T0 N l.toArray M (fun fr' X => Q .normal fr' (X ++ M)) os) [o] fr' M) M (l.take n) fr := by simpa [AL] using h
  rcases aq2_split _ _ h' with h1 | h1
  case inr => obtain ⟨_, _, _, hlast, _⟩ := aqb_some _ _ h1; rw [nopOps_last] at hlast; cases hlast
  have hnl : n ≤ l.length := Nat.le_of_ble_eq_true hn
  have hlen : l.length = n + os.length := by
    have := congrArg List.length hs
    simp only [List.length_drop] at this; omega
  have hgd : ∀ j, l[n + j]? = os[j]? := fun j => by rw [← hs, List.getElem?_drop]
  have hos : (fromN os.length n).map (fun d => l.toArray[d]?) = os.map some := fromN_get l os n fun j _ => hgd j
  rw [show l.length - n = os.length by omega] at hB
  have htl : (l.take n).length = n := by rw [List.length_take]; omega
  -- the posts are closed under frames that look alike
  have hQE : ∀ (fr fr' : Fr) (X : List Own), (∀ s, fr'.get s = fr.get s) → (∃ fr1, (∀ s, Fr.get fr s = Fr.get fr1 s) ∧ Q .normal fr1 (X ++ M)) → (∃ fr1, (∀ s, Fr.get fr' s = Fr.get fr1 s) ∧ Q .normal fr1 (X ++ M)) := fun fr fr' X he ⟨fr1, h1, h2⟩ => ⟨fr1, fun s => (he s).trans (h1 s), h2⟩
  have hup : ∀ (os : List Oper) (fr : Fr) (X : List Own), SeqF P T0 N l.toArray M (fun fr' X => Q .normal fr' (X ++ M)) os fr X → SeqF P T0 N l.toArray M (fun fr' X => ∃ fr1, (∀ s, Fr.get fr' s = Fr.get fr1 s) ∧ Q .normal fr1 (X ++ M)) os fr X := by
    intro os
    induction os with
    | nil => intro fr X h; exact ⟨fr, fun _ => rfl, h⟩
    | cons o os ih =>
      rintro fr X ⟨hd, ⟨A, hy, hr⟩ | ⟨hg, K, hao, hr⟩⟩
      · exact ⟨hd, .inl ⟨A, hy, ih _ _ hr⟩⟩
      · exact ⟨hd, .inr ⟨hg, K, hao, fun A X' k => ih _ _ (hr A X' k)⟩⟩
  have hmono : ∀ (l' : List Oper) (fr : Fr), AQ P T0 N l.toArray (fun fr' => endF P T0 N l.toArray M (fun fr' X => Q .normal fr' (X ++ M)) os .normal fr' M) M l' fr → AQ P T0 N l.toArray (fun fr' => SeqF P T0 N l.toArray M (fun fr' X => ∃ fr1, (∀ s, Fr.get fr' s = Fr.get fr1 s) ∧ Q .normal fr1 (X ++ M)) os fr' []) M l' fr := by
    intro l'
    induction l' with
    | nil => intro fr h; exact hup os fr [] h.2
    | cons o l' ih => rintro fr ⟨hd, A, hy, hr⟩; exact ⟨hd, A, hy, ih _ hr⟩
  have h2 := hmono _ _ (aq_plain (ops := l.toArray) _ _ hg h1)
  have h3 := wpAnyF_lex (md := .any) hQE hos (l.take n) 0 (List.replicate l.length false).toArray fr (fun j hj => by rw [htl] at hj; simp [List.getElem?_take, hj]) (by rw [htl]; exact hB) h2
  rw [htl, fromN_len, ← hlen] at h3
  refine wp_region_any hm ?_
  have es : Array.replicate l.toArray.size false = (List.replicate l.length false).toArray := by simp
  rw [es]
  refine wpAny_of_F (G0 := G) (F := F) (w0 := w0) ?_ _ _ fr [] G _ _ (Gh.le.refl _) ⟨hc.st.drew, hc.fr, hc.size, hc.defers⟩ (by simpa using h3)
  rintro fr' X G' a' w' hl' ⟨fr1, he, hq⟩ hc'
  exact ⟨fr1, X ++ M, G', hq, hl', hc'.st, fun s A hs e => hc'.fr s A hs (by rw [he s]; exact e), hc'.size, hc'.defers⟩
/-! ### steps -/
variable {QE : Fr → List Own → Prop} {X : List Own} {o : Oper} {os : List Oper} {x0 : Nat}
theorem sf_nil (h : QE fr X) : SeqF P T0 N ops M QE [] fr X := h
theorem sf_alloc {e : TypeId} {zs : List Value} {z : Value} {Z : List AV} (hg : o.guard = none) (hd : o.dst = some x0) (hN : Nat.blt x0 N.n = true) (ho : o.op = .alloc e) (hz : (P.info? e).map (·.zero) = some (some z) ∧ z.cells.toList = zs ∧ Z = zs.map vA) (h : ∀ b, SeqF P T0 N ops M QE os ((x0, vA (.pointer (some ⟨b, 0, none⟩))) :: fr) (varO b e Z :: X)) : SeqF P T0 N ops M QE (o :: os) fr X := by
  obtain ⟨h1, h2, rfl⟩ := hz
  refine ⟨fun x hx => ?_, .inr ⟨hg, _, ao_alloc ho h1 h2, ?_⟩⟩
  · rw [hd] at hx; obtain rfl := Option.some.inj hx; exact Nat.lt_of_succ_le (Nat.le_of_ble_eq_true hN)
  · rintro _ _ ⟨b, rfl, rfl⟩
    rw [hd]; exact h b
theorem sf_store {t e : TypeId} {x y : Operand} {b off n : Nat} {cells cells' l : List AV} {A : AV} {f : Own → List Own} (hg : o.guard = none) (hd : o.dst = none) (ho : o.op = .store t x y) (hz : ∀ w, (sizeOf t).run P w = .ok n w) (hx : Opd T0 fr x (vA (.pointer (some ⟨b, off, none⟩)))) (hy : Opd T0 fr y A) (hc : CellsA A l) (hl : l.length = n) (h1 : OnesA l) (hU : UpdF (varO b e cells) X f) (hs : SetC cells off l cells')
    (h : SeqF P T0 N ops M QE os fr (f (varO b e cells'))) : SeqF P T0 N ops M QE (o :: os) fr X := by
  obtain ⟨i, k1, k2⟩ := hU.spec
  obtain ⟨k3, k4⟩ := hs.spec
  subst hl; subst k4
  refine ⟨fun x hx => (by rw [hd] at hx; cases hx), .inr ⟨hg, _, ao_store_var i ho hz k1 hx hy hc h1 k3, ?_⟩⟩
  rintro _ _ rfl
  rw [hd, ← k2]; exact h
theorem sf_y {A : AV} (hg : o.guard = none) (hd : o.dst = some x0) (hN : Nat.blt x0 N.n = true) (hy : AY P T0 ops o fr M A) (h : SeqF P T0 N ops M QE os ((x0, A) :: fr) X) : SeqF P T0 N ops M QE (o :: os) fr X := by
  refine ⟨fun x hx => ?_, .inl ⟨A, qy_plain hg hy, by rw [hd]; exact h⟩⟩
  rw [hd] at hx; obtain rfl := Option.some.inj hx; exact Nat.lt_of_succ_le (Nat.le_of_ble_eq_true hN)
end
end Go.Proofs.YtplabpjkkcillaaDoor
/- Layer 7 (term): the law of a grid that is filled. No condition. -/
namespace Go.Proofs.YtplabpjkkcillaaDoor
set_option linter.unusedSimpArgs false
set_option linter.unusedVariables false
set_option linter.unusedSectionVars false
set_option maxHeartbeats 4000000
open Go Go.RowKit
variable {T0 : Gh} [TabS T0] [TabU T0]
set_option maxRecDepth 200000
attribute [local irreducible] thenA inBlockA AW AL AO QY varO rowO rsA Opd OpdN vA gvA tupA aggA slA slcA ipA rpA EqK LnK IxK LdK FaK FdK
theorem l_TermFills (W H r : Int) : AP Tryd.prog T0 15 [I W, I H, R r] (B true) := by
  have c1 := f_termNew (T0 := T0) W H
  have c4 : True := trivial
  by_cases hs : sidesM W H = true
  · obtain ⟨w, h, rfl, rfl, h1, h2, h3, h4⟩ := sides_nat hs
    have e : newR w h = (((w : Int), (h : Int), List.replicate (w * h) (32, 0)), 0) := by rw [newR, if_pos hs]; rfl
    have hok := newR_ok h1 h2 h3 h4
    have hlen : (List.replicate (w * h) ((32, 0) : Cell)).length = w * h := List.length_replicate
    have hwh : w * h ≤ 80 * 24 := Nat.mul_le_mul h2 h4
    have c3 := f_New (T0 := T0) w h
    rw [e] at c1 c3
    replace c3 : AP Tryd.prog T0 38 [I w, I h] (tupA [gridA w h (List.replicate (w * h) (32, 0)), I 0]) := c3
    clear e
    generalize List.replicate (w * h) ((32, 0) : Cell) = l0 at *
    have c2 := f_termDo (T0 := T0) w h l0 0 0 false (1, 0, 0, r)
    have hok0 : okT w h l0 0 0 false = true := okT_iff.2 ⟨hok, ⟨by omega, by omega, by omega, by omega⟩, fun h => by cases h⟩
    cases hr : shown r with
    | false =>
      rw [doT_no (fun h => by have := h.2; simp [isCmd, hr] at this)] at c2
      refine af_intro Tryd.func15 rfl (by decide) Tryd.ntmps15 rfl ?_
      repeat' (first
      | fail
      | refine s_y ?_
        | refine c_ ?_
        | (refine aw_if ?_ ?_ <;> intro hb <;> try (exfalso; first | assumption | omega | (simp only [or_self, and_self, not_true_eq_false, not_false_eq_true, or_false, false_or, and_false, false_and, true_and, and_true] at hb; first | done | omega)))
        | refine s_call ?_ (c := by first | exact f_fed | exact c1 | exact c2 | exact c3 | exact c4 | exact f_ref03Same _ _ _ _ _ _ | fail)
        | refine s_op ?_ (hy := by first | fail | fail)
        | refine s_yg ?_
        | refine s_callg ?_ (c := by intro hk hk2; first | exact f_fed | exact c1 | exact c2 | exact c3 | exact c4 | exact f_ref03Same _ _ _ _ _ _ | fail)
        | refine s_opg ?_ (hy := by intro hk hk2; first | fail | fail)
        | refine s_skip ?_
        | ((first | refine w_alloc ?_ | refine w_box ?_) <;> intro bb)
        | ((first | refine w_emp ?_ | refine w_make ?_ | refine w_app ?_) <;> intro u hu1 hu2)
        | refine w_stv ?_ | refine w_str ?_ | refine w_cpr ?_ | refine w_cps ?_
        | refine al_last (by kernel_rfl) ?_
      | fail)
      all_goals first | (exfalso; omega) | (exfalso; simp at hb; done) | exact ⟨_, [], rl_, List.nil_sublist _, Sub.refl _, rfl⟩ | exact ⟨_, [], rl_, List.nil_sublist _, Sub.eq (congrArg B (by simp)), rfl⟩
    | true =>
      have hc : isCmd (1, 0, 0, r) = true := by simp [isCmd, hr]
      have hl := cellsM_rng hr
      by_cases hk : (cellsM r).length = 1
      · obtain ⟨f0, l1, f1, f2, f3⟩ := fill_step (i := 0) ⟨h1, h2⟩ ⟨h3, h4⟩ (Nat.mul_pos (by omega) (by omega)) (Nat.zero_mod w) (Nat.zero_div w) hok hr hk
        have e2 : doT ((w : Int), (h : Int), l0, 0, 0, false) (1, 0, 0, r) = (((w : Int), (h : Int), l1, 1, 0, false), 0) := by
          rw [doT_ok hok0 hc]
          show (textK w h l0 0 0 false r, (0 : Int)) = _
          have : textK w h l0 0 0 false r = ((w : Int), (h : Int), l1, curX w 1, curY w 1, curB w 1) := f3
          rw [this]
          simp [curX, curY, curB]; omega
        rw [e2] at c2
        clear e2 f0 f1 f2 f3
        refine af_intro Tryd.func15 rfl (by decide) Tryd.ntmps15 rfl ?_
        repeat' (first
        | fail
        | refine s_y ?_
          | refine c_ ?_
          | (refine aw_if ?_ ?_ <;> intro hb <;> try (exfalso; first | assumption | omega | (simp only [or_self, and_self, not_true_eq_false, not_false_eq_true, or_false, false_or, and_false, false_and, true_and, and_true] at hb; first | done | omega)))
          | refine s_call ?_ (c := by first | exact f_fed | exact c1 | exact c2 | exact c3 | exact c4 | exact f_ref03Same _ _ _ _ _ _ | fail)
          | refine s_op ?_ (hy := by first | fail | fail)
          | refine s_yg ?_
          | refine s_callg ?_ (c := by intro hk hk2; first | exact f_fed | exact c1 | exact c2 | exact c3 | exact c4 | exact f_ref03Same _ _ _ _ _ _ | fail)
          | refine s_opg ?_ (hy := by intro hk hk2; first | fail | fail)
          | refine s_skip ?_
          | ((first | refine w_alloc ?_ | refine w_box ?_) <;> intro bb)
          | ((first | refine w_emp ?_ | refine w_make ?_ | refine w_app ?_) <;> intro u hu1 hu2)
          | refine w_stv ?_ | refine w_str ?_ | refine w_cpr ?_ | refine w_cps ?_
          | refine al_last (by kernel_rfl) ?_
        | fail)
        all_goals first | (exfalso; omega) | (exfalso; simp at hb; done) | skip
        rename_i bt bc ba
        clear c1 c2 c3
        refine aw_lm (σ := Nat × List Cell) (fun z => [(8, I 0), (14, I z.1)]) (fun z => [varO bb 41 [I w, I h, slA cellT z.2], varO bc 23 [I 1, I 0, I 0, R r], varO bt 43 [I w, I h, slA cellT z.2, I (curX w z.1), I (curY w z.1), B (curB w z.1)]]) (fun z => z.1 ≤ w * h ∧ okG w h z.2 = true) (fun z => w * h - z.1) (0, l0) ⟨Nat.zero_le _, hok⟩ sl_ ?_
        rintro ⟨i, l⟩ ⟨i1, i2⟩
        simp only at i1 i2 ⊢
        have c1 : True := trivial
        by_cases hlt : i < w * h
        · obtain ⟨g1, l', g2, g3, g4⟩ := fill_step ⟨h1, h2⟩ ⟨h3, h4⟩ hlt rfl rfl i2 hr hk
          have hg := okG_len i2
          have c2 := f_termDo (T0 := T0) w h l (curX w i) (curY w i) (curB w i) (1, 0, 0, r)
          have e2 : doT ((w : Int), (h : Int), l, curX w i, curY w i, curB w i) (1, 0, 0, r) = (((w : Int), (h : Int), l', curX w (i + 1), curY w (i + 1), curB w (i + 1)), 0) := by
            rw [doT_ok g1 hc]
            show (textK w h l (curX w i) (curY w i) (curB w i) r, (0 : Int)) = _
            rw [g4]
          have hY : curY w (i + 1) = ((i / w : Nat) : Int) := by rw [curY, if_neg (by omega), Nat.add_sub_cancel]
          have hB : curB w (i + 1) = decide (((i % w : Nat) : Int) = ((w - 1 : Nat) : Int)) := by
            rw [curB, if_neg (by omega), Nat.add_sub_cancel, Bool.eq_iff_iff, decide_eq_true_eq, decide_eq_true_eq]; exact Int.ofNat_inj.symm
          rw [e2, hY, hB] at c2
          have q1 : (0 : Int) ≤ ((i / w : Nat) : Int) := Int.natCast_nonneg _
          have q2 : ((i / w : Nat) : Int) ≤ 1920 := Int.ofNat_le.2 (Nat.le_trans (Nat.div_le_self i w) (show i ≤ 1920 by omega))
          have c3 : AP Tryd.prog T0 39 [gridA w h l, I (i % w : Nat), I (i / w : Nat), R r] (tupA [gridA w h l', I 0]) := (f_Put w h l (i % w : Nat) (i / w : Nat) r (by omega)).to (by rw [g2]; rfl)
          clear e2 g1 g2 g4
          repeat' (first
          | fail
          | (apply aw_regionF 12; (case hB => decide +kernel); (case hn => rfl); (case hg => decide +kernel); (case hm => kernel_rfl); (case hs => rfl))
            | refine endF_ ?_
            | (refine sf_alloc rfl rfl rfl rfl al_ ?_; intro bn)
            | (apply sf_store rfl rfl rfl; (case hx => exact oo_); (case hz => exact sz_); (case hy => exact oo_); (case hc => exact cam_); (case hl => rfl); (case h1 => exact ones_); (case hU => exact upf_); (case hs => exact setc_))
            | (apply sf_y rfl rfl rfl; (case hy => exact y_))
            | refine sf_nil ?_
          | refine aw_seq ?_
            | refine aw_region0 ?_
            | refine al_nil ?_
            | refine th_n ?_
            | refine th_e ?_
            | refine th_r ?_
            | refine ib_n ?_
            | refine ib_e rfl ?_
            | refine ib_e' rfl ?_
            | refine ib_r ?_
            | refine aw_block ?_
            | refine aw_exit ?_
            | refine aw_ret ?_
            | refine aw_skip ?_
            | (apply aw_region1q (by rfl) (by kernel_rfl) (by kernel_rfl))
          | refine s_y ?_
            | refine c_ ?_
            | (refine aw_if ?_ ?_ <;> intro hb <;> try (exfalso; first | assumption | omega | (simp only [or_self, and_self, not_true_eq_false, not_false_eq_true, or_false, false_or, and_false, false_and, true_and, and_true] at hb; first | done | omega)))
            | refine s_call ?_ (c := by first | exact f_fed | exact c1 | exact c2 | exact c3 | exact c4 | exact f_ref03Same _ _ _ _ _ _ | fail)
            | refine s_op ?_ (hy := by first | fail | fail)
            | refine s_yg ?_
            | refine s_callg ?_ (c := by intro hk hk2; first | exact f_fed | exact c1 | exact c2 | exact c3 | exact c4 | exact f_ref03Same _ _ _ _ _ _ | fail)
            | refine s_opg ?_ (hy := by intro hk hk2; first | fail | fail)
            | refine s_skip ?_
            | ((first | refine w_alloc ?_ | refine w_box ?_) <;> intro bb)
            | ((first | refine w_emp ?_ | refine w_make ?_ | refine w_app ?_) <;> intro u hu1 hu2)
            | refine w_stv ?_ | refine w_str ?_ | refine w_cpr ?_ | refine w_cps ?_
            | refine al_last (by kernel_rfl) ?_
          | fail)
          all_goals first | (exfalso; omega) | (exfalso; simp at hb; done) | skip
          refine ⟨(i + 1, l'), ⟨?_, g3⟩, ?_, ?_, ?_⟩
          · simp only; omega
          · simp only; omega
          · exact wx_
          · simp only [hY, hB]; exact sl_
        · have c2 : True := trivial
          have c3 : True := trivial
          repeat' (first
          | fail
          | refine s_y ?_
            | refine c_ ?_
            | (refine aw_if ?_ ?_ <;> intro hb <;> try (exfalso; first | assumption | omega | (simp only [or_self, and_self, not_true_eq_false, not_false_eq_true, or_false, false_or, and_false, false_and, true_and, and_true] at hb; first | done | omega)))
            | refine s_call ?_ (c := by first | exact f_fed | exact c1 | exact c2 | exact c3 | exact c4 | exact f_ref03Same _ _ _ _ _ _ | fail)
            | refine s_op ?_ (hy := by first | fail | fail)
            | refine s_yg ?_
            | refine s_callg ?_ (c := by intro hk hk2; first | exact f_fed | exact c1 | exact c2 | exact c3 | exact c4 | exact f_ref03Same _ _ _ _ _ _ | fail)
            | refine s_opg ?_ (hy := by intro hk hk2; first | fail | fail)
            | refine s_skip ?_
            | ((first | refine w_alloc ?_ | refine w_box ?_) <;> intro bb)
            | ((first | refine w_emp ?_ | refine w_make ?_ | refine w_app ?_) <;> intro u hu1 hu2)
            | refine w_stv ?_ | refine w_str ?_ | refine w_cpr ?_ | refine w_cps ?_
            | refine al_last (by kernel_rfl) ?_
          | fail)
          all_goals first | (exfalso; omega) | exact ⟨_, [], rl_, List.nil_sublist _, Sub.refl _, rfl⟩ | exact ⟨_, [], rl_, List.nil_sublist _, Sub.eq (congrArg B (by simp)), rfl⟩
      · have hk2 : (cellsM r).length = 2 := by omega
        have e2 : (doT ((w : Int), (h : Int), l0, 0, 0, false) (1, 0, 0, r)).2 = 0 ∧ ((doT ((w : Int), (h : Int), l0, 0, 0, false) (1, 0, 0, r)).1.2.2.2.1 ≠ 1 ∨ (doT ((w : Int), (h : Int), l0, 0, 0, false) (1, 0, 0, r)).1.2.2.2.2.2 = true) := by
          rw [doT_ok hok0 hc]
          refine ⟨rfl, ?_⟩
          show (textK w h l0 0 0 false r).2.2.2.1 ≠ 1 ∨ (textK w h l0 0 0 false r).2.2.2.2.2 = true
          rw [textK, if_neg (by simp [hk2]; omega), textAt, hk2]
          simp only [decide_eq_true_eq]
          by_cases hw : w = 2
          · right; subst hw; rfl
          · left; unfold inM; omega
        obtain ⟨⟨⟨w1, h1', l1, x1, y1, b1⟩, e1⟩, hz1⟩ : ∃ z, z = doT ((w : Int), (h : Int), l0, 0, 0, false) (1, 0, 0, r) := ⟨_, rfl⟩
        rw [← hz1] at c2 e2
        simp only at c2 e2
        obtain ⟨rfl, e2⟩ := e2
        clear hz1
        refine af_intro Tryd.func15 rfl (by decide) Tryd.ntmps15 rfl ?_
        repeat' (first
        | fail
        | refine s_y ?_
          | refine c_ ?_
          | (refine aw_if ?_ ?_ <;> intro hb <;> try (exfalso; first | assumption | omega | (simp only [or_self, and_self, not_true_eq_false, not_false_eq_true, or_false, false_or, and_false, false_and, true_and, and_true] at hb; first | done | omega)))
          | refine s_call ?_ (c := by first | exact f_fed | exact c1 | exact c2 | exact c3 | exact c4 | exact f_ref03Same _ _ _ _ _ _ | fail)
          | refine s_op ?_ (hy := by first | fail | fail)
          | refine s_yg ?_
          | refine s_callg ?_ (c := by intro hk hk2; first | exact f_fed | exact c1 | exact c2 | exact c3 | exact c4 | exact f_ref03Same _ _ _ _ _ _ | fail)
          | refine s_opg ?_ (hy := by intro hk hk2; first | fail | fail)
          | refine s_skip ?_
          | ((first | refine w_alloc ?_ | refine w_box ?_) <;> intro bb)
          | ((first | refine w_emp ?_ | refine w_make ?_ | refine w_app ?_) <;> intro u hu1 hu2)
          | refine w_stv ?_ | refine w_str ?_ | refine w_cpr ?_ | refine w_cps ?_
          | refine al_last (by kernel_rfl) ?_
        | fail)
        all_goals first | (exfalso; omega) | exact ⟨_, [], rl_, List.nil_sublist _, Sub.refl _, rfl⟩ | (exfalso; simp at hb; rcases e2 with e2 | e2 <;> simp_all; done)
  · rw [show newR W H = ((0, 0, []), 4) by rw [newR, if_neg hs]] at c1
    have c2 := f_termDo (T0 := T0) 0 0 [] 0 0 false (1, 0, 0, r)
    have c3 : True := trivial
    refine af_intro Tryd.func15 rfl (by decide) Tryd.ntmps15 rfl ?_
    repeat' (first
    | fail
    | refine s_y ?_
      | refine c_ ?_
      | (refine aw_if ?_ ?_ <;> intro hb <;> try (exfalso; first | assumption | omega | (simp only [or_self, and_self, not_true_eq_false, not_false_eq_true, or_false, false_or, and_false, false_and, true_and, and_true] at hb; first | done | omega)))
      | refine s_call ?_ (c := by first | exact f_fed | exact c1 | exact c2 | exact c3 | exact c4 | exact f_ref03Same _ _ _ _ _ _ | fail)
      | refine s_op ?_ (hy := by first | fail | fail)
      | refine s_yg ?_
      | refine s_callg ?_ (c := by intro hk hk2; first | exact f_fed | exact c1 | exact c2 | exact c3 | exact c4 | exact f_ref03Same _ _ _ _ _ _ | fail)
      | refine s_opg ?_ (hy := by intro hk hk2; first | fail | fail)
      | refine s_skip ?_
      | ((first | refine w_alloc ?_ | refine w_box ?_) <;> intro bb)
      | ((first | refine w_emp ?_ | refine w_make ?_ | refine w_app ?_) <;> intro u hu1 hu2)
      | refine w_stv ?_ | refine w_str ?_ | refine w_cpr ?_ | refine w_cps ?_
      | refine al_last (by kernel_rfl) ?_
    | fail)
    all_goals first | (exfalso; omega) | (exfalso; simp at hb; done) | exact ⟨_, [], rl_, List.nil_sublist _, Sub.refl _, rfl⟩ | exact ⟨_, [], rl_, List.nil_sublist _, Sub.eq (congrArg B (by simp)), rfl⟩
end Go.Proofs.YtplabpjkkcillaaDoor
