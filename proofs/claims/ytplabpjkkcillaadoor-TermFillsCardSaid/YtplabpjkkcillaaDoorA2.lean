/- The logic's second part: frames told slot by slot, what a piece of code does to them, lists of operations, regions that draw their order. No condition. -/
import Derived.Test.YtplabpjkkcillaaDoorA1
namespace Go.Proofs.YtplabpjkkcillaaDoor
set_option linter.unusedSimpArgs false
set_option linter.unusedVariables false
set_option linter.unusedSectionVars false
set_option maxHeartbeats 4000000
open Go Go.RowKit

/-- how many slots a frame has, and which calls it has put off -/
structure Fz where
  n : Nat
  D : List Deferred
abbrev Fr := List (Nat × AV)
def Fr.get : Fr → Nat → Option AV
  | [], _ => none
  | (d, A) :: r, s => bif Nat.beq s d then some A else Fr.get r s
/-- the slots in R read as the frame says -/
def frOn (G : Gh) (R : Nat → Prop) (fr : Fr) (tmps : Array Value) : Prop := ∀ s A, R s → fr.get s = some A → ∃ u, tmps[s]? = some u ∧ Rep G A u
abbrev frRel (G : Gh) (fr : Fr) (tmps : Array Value) : Prop := frOn G (fun _ => True) fr tmps
def Fr.put (fr : Fr) (d : Option Tmp) (A : AV) : Fr := match d with | some d => (d, A) :: fr | none => fr
theorem frOn.gmono {G G' : Gh} {R : Nat → Prop} {fr : Fr} {t : Array Value} (h : Gh.le G G') (r : frOn G R fr t) : frOn G' R fr t :=
  fun s A hs e => let ⟨u, a, b⟩ := r s A hs e; ⟨u, a, b.mono h⟩
theorem nbeq_ne {s d : Nat} (h : s ≠ d) : Nat.beq s d = false := by
  cases hb : Nat.beq s d with
  | false => rfl
  | true => exact absurd (Nat.eq_of_beq_eq_true hb) h
theorem get_cons_same (fr : Fr) (d : Nat) (A : AV) : Fr.get ((d, A) :: fr) d = some A := by simp [Fr.get]
theorem get_cons_ne {fr : Fr} {d s : Nat} {A : AV} (h : s ≠ d) : Fr.get ((d, A) :: fr) s = fr.get s := by
  have : Nat.beq s d = false := nbeq_ne h
  simp [Fr.get, this]
theorem frRel.put {G : Gh} {fr : Fr} {a : Act} {d : Option Tmp} {A : AV} {u : Value} (h : frRel G fr a.tmps) (hd : ∀ x, d = some x → x < a.tmps.size) (hu : Rep G A u) : frRel G (fr.put d A) (a.put d u).tmps := by
  cases d with
  | none => exact h
  | some d =>
    intro s B _ e
    by_cases hs : s = d
    · subst hs
      simp only [Fr.put, get_cons_same] at e
      obtain rfl := Option.some.inj e
      exact ⟨u, by simp [Act.put, hd s rfl], hu⟩
    · simp only [Fr.put, get_cons_ne hs] at e
      obtain ⟨v, a1, a2⟩ := h s B trivial e
      exact ⟨v, by simp only [Act.put]; rw [Array.getElem?_setIfInBounds_ne (Ne.symm hs)]; exact a1, a2⟩
theorem size_put (a : Act) (d : Option Tmp) (u : Value) : (a.put d u).tmps.size = a.tmps.size := by cases d <;> simp [Act.put]
theorem defers_put (a : Act) (d : Option Tmp) (u : Value) : (a.put d u).defers = a.defers := by cases d <;> rfl

section
variable (P : Program) (T0 : Gh) (N : Fz)

/-- a state that is told by a frame, what is owned, and what is owned by others beside -/
structure Con (w0 : World) (G : Gh) (F : List Own) (fr : Fr) (M : List Own) (a : Act) (w : World) : Prop where
  st : St T0 w0 G (M ++ F) w
  fr : frRel G fr a.tmps
  size : a.tmps.size = N.n
  defers : a.defers = N.D
abbrev Post := Exit → Fr → List Own → Prop
def cQ (w0 : World) (G0 : Gh) (F : List Own) (Q : Post) : Exit → Act → World → Prop := fun e a w => ∃ fr M G, Q e fr M ∧ Gh.le G0 G ∧ Con T0 N w0 G F fr M a w
/-- the code, begun in what the frame and M tell, ends in what Q tells -/
def AW (c : Code) (Q : Post) (fr : Fr) (M : List Own) : Prop := ∀ w0 G F a w, Con T0 N w0 G F fr M a w → c.wp P (cQ T0 N w0 G F Q) a w
end
section
variable {P : Program} {T0 : Gh} {N : Fz} {Q : Post} {fr : Fr} {M : List Own}

theorem cQ.mono {w0 : World} {G0 G1 : Gh} {F : List Own} {Q Q' : Post} (h : ∀ e fr M, Q e fr M → Q' e fr M) (hl : Gh.le G0 G1) {e : Exit} {a : Act} {w : World} (q : cQ T0 N w0 G1 F Q e a w) : cQ T0 N w0 G0 F Q' e a w :=
  let ⟨fr, M, G, q1, q2, q3⟩ := q; ⟨fr, M, G, h _ _ _ q1, hl.trans q2, q3⟩
theorem AW.mono {c : Code} {Q' : Post} (h : AW P T0 N c Q fr M) (hq : ∀ e fr M, Q e fr M → Q' e fr M) : AW P T0 N c Q' fr M :=
  fun w0 G F a w hc => wp_mono (h w0 G F a w hc) fun _ _ _ q => q.mono hq (Gh.le.refl _)
def thenA (next : Fr → List Own → Prop) (Q : Post) : Post
  | .normal, fr, M => next fr M
  | e, fr, M => Q e fr M
def inBlockA (id : Nat) (Q : Post) : Post
  | .exit id', fr, M => bif Nat.beq id' id then Q .normal fr M else Q (.exit id') fr M
  | e, fr, M => Q e fr M
theorem aw_seq {x y : Code} (h : AW P T0 N x (thenA (AW P T0 N y Q) Q) fr M) : AW P T0 N (.seq x y) Q fr M := fun w0 G F a w hc =>
  wp_seq (wp_mono (h w0 G F a w hc) fun e a' w' q => by
    obtain ⟨fr', M', G', q1, q2, q3⟩ := q
    cases e with
    | normal => exact wp_mono (q1 w0 G' F a' w' q3) fun _ _ _ q => q.mono (fun _ _ _ h => h) q2
    | _ => exact ⟨fr', M', G', q1, q2, q3⟩)
theorem aw_block {id : Nat} {c : Code} (h : AW P T0 N c (inBlockA id Q) fr M) : AW P T0 N (.block id c) Q fr M := fun w0 G F a w hc =>
  wp_block (wp_mono (h w0 G F a w hc) fun e a' w' q => by
    obtain ⟨fr', M', G', q1, q2, q3⟩ := q
    cases e with
    | exit id' =>
      by_cases hi : id' = id
      · subst hi
        simp only [inBlockA, Nat.beq_refl, cond_true] at q1
        simp only [Exit.inBlock, if_true]
        exact ⟨fr', M', G', q1, q2, q3⟩
      · have : Nat.beq id' id = false := nbeq_ne hi
        simp only [inBlockA, this, cond_false] at q1
        simp only [Exit.inBlock, if_neg hi]
        exact ⟨fr', M', G', q1, q2, q3⟩
    | _ => exact ⟨fr', M', G', q1, q2, q3⟩)
theorem th_n {next : Fr → List Own → Prop} (h : next fr M) : thenA next Q .normal fr M := h
theorem th_e {next : Fr → List Own → Prop} {i : Nat} (h : Q (.exit i) fr M) : thenA next Q (.exit i) fr M := h
theorem th_r {next : Fr → List Own → Prop} (h : Q .ret fr M) : thenA next Q .ret fr M := h
theorem th_p {next : Fr → List Own → Prop} {c : List PanicEntry} (h : Q (.panic c) fr M) : thenA next Q (.panic c) fr M := h
theorem ib_n {id : Nat} (h : Q .normal fr M) : inBlockA id Q .normal fr M := h
theorem ib_r {id : Nat} (h : Q .ret fr M) : inBlockA id Q .ret fr M := h
theorem ib_p {id : Nat} {c : List PanicEntry} (h : Q (.panic c) fr M) : inBlockA id Q (.panic c) fr M := h
theorem ib_e {id i : Nat} (e : Nat.beq i id = true) (h : Q .normal fr M) : inBlockA id Q (.exit i) fr M := by simp only [inBlockA, e, cond_true]; exact h
theorem ib_e' {id i : Nat} (e : Nat.beq i id = false) (h : Q (.exit i) fr M) : inBlockA id Q (.exit i) fr M := by simp only [inBlockA, e, cond_false]; exact h
theorem aw_skip (h : Q .normal fr M) : AW P T0 N .skip Q fr M := fun _ _ _ _ _ hc => wp_skip ⟨fr, M, _, h, Gh.le.refl _, hc⟩
theorem aw_exit {id : Nat} (h : Q (.exit id) fr M) : AW P T0 N (.exit id) Q fr M := fun _ _ _ _ _ hc => wp_exit ⟨fr, M, _, h, Gh.le.refl _, hc⟩
theorem aw_ret (h : Q .ret fr M) : AW P T0 N .ret Q fr M := fun _ _ _ _ _ hc => wp_ret ⟨fr, M, _, h, Gh.le.refl _, hc⟩
theorem Con.slot {w0 : World} {G : Gh} {F : List Own} {a : Act} {w : World} (hc : Con T0 N w0 G F fr M a w) {t : Nat} {A : AV} (h : fr.get t = some A) : Rep G A (a.eval (.tmp t)) := by
  obtain ⟨u, h1, h2⟩ := hc.fr t A trivial h
  have : a.eval (.tmp t) = u := by simp [Act.eval, h1]
  rw [this]; exact h2
theorem aw_cond {t : Nat} {x y : Code} {c : Bool} (hc : fr.get t = some (B c)) (ht : c = true → AW P T0 N x Q fr M) (hf : c = false → AW P T0 N y Q fr M) : AW P T0 N (.cond (.tmp t) x y) Q fr M := fun w0 G F a w h =>
  wp_cond_split (h.slot hc).eq (fun e => ht e w0 G F a w h) (fun e => hf e w0 G F a w h)
/-- the same where it is known -/
theorem aw_cond1 {t : Nat} {x y : Code} {c : Bool} (hc : fr.get t = some (B c)) (h1 : c = true) (ht : AW P T0 N x Q fr M) : AW P T0 N (.cond (.tmp t) x y) Q fr M := aw_cond hc (fun _ => ht) (fun e => by rw [h1] at e; cases e)
theorem aw_cond0 {t : Nat} {x y : Code} {c : Bool} (hc : fr.get t = some (B c)) (h1 : c = false) (ht : AW P T0 N y Q fr M) : AW P T0 N (.cond (.tmp t) x y) Q fr M := aw_cond hc (fun e => by rw [h1] at e; cases e) (fun _ => ht)
/-- a loop: an invariant that bears a number, which every round lowers -/
theorem aw_loop {c : Code} (J : Nat → Fr → List Own → Prop) (n0 : Nat) (h0 : J n0 fr M)
    (round : ∀ n fr M, J n fr M → AW P T0 N c (thenA (fun fr' M' => ∃ n', n' < n ∧ J n' fr' M') Q) fr M) : AW P T0 N (.loop c) Q fr M := fun w0 G F a w hc => by
  refine wp_loop_ghost (fun n a w => ∃ fr M G', J n fr M ∧ Gh.le G G' ∧ Con T0 N w0 G' F fr M a w) n0 ⟨fr, M, G, h0, Gh.le.refl _, hc⟩ ?_
  rintro n a' w' ⟨fr', M', G', hj, hl, hc'⟩
  refine wp_mono (round n fr' M' hj w0 G' F a' w' hc') fun e a2 w2 q => ?_
  obtain ⟨fr2, M2, G2, q1, q2, q3⟩ := q
  cases e with
  | normal =>
    obtain ⟨n', hn, hj'⟩ := q1
    exact ⟨n', hn, fr2, M2, G2, hj', hl.trans q2, q3⟩
  | _ => exact ⟨fr2, M2, G2, q1, hl.trans q2, q3⟩

/-- what a state tells may be told anew -/
def Ent (T0 : Gh) (fr : Fr) (M : List Own) (fr' : Fr) (M' : List Own) : Prop := ∀ w0 G F (t : Array Value) w, St T0 w0 G (M ++ F) w → frRel G fr t → ∃ G', Gh.le G G' ∧ St T0 w0 G' (M' ++ F) w ∧ frRel G' fr' t
theorem Ent.con {fr' : Fr} {M' : List Own} (h : Ent T0 fr M fr' M') {w0 : World} {G : Gh} {F : List Own} {a : Act} {w : World} (hc : Con T0 N w0 G F fr M a w) : ∃ G', Gh.le G G' ∧ Con T0 N w0 G' F fr' M' a w :=
  let ⟨G', a1, a2, a3⟩ := h w0 G F a.tmps w hc.st hc.fr; ⟨G', a1, a2, a3, hc.size, hc.defers⟩
theorem aw_ent {c : Code} {fr' : Fr} {M' : List Own} (e : Ent T0 fr M fr' M') (h : AW P T0 N c Q fr' M') : AW P T0 N c Q fr M := fun w0 G F a w hc =>
  let ⟨G', hl, hc'⟩ := e.con hc
  wp_mono (h w0 G' F a w hc') fun _ _ _ q => q.mono (fun _ _ _ h => h) hl
theorem ent_fr {fr' : Fr} (h : ∀ s A, fr'.get s = some A → fr.get s = some A) : Ent T0 fr M fr' M := fun _ G _ _ _ s r => ⟨G, Gh.le.refl _, s, fun x A hx e => r x A hx (h x A e)⟩
/-- of the frame these slots alone -/
def Fr.keep (fr : Fr) : List Nat → Fr
  | [] => []
  | s :: l => match fr.get s with | some A => (s, A) :: fr.keep l | none => fr.keep l
theorem Fr.keep_get (fr : Fr) (s : Nat) (A : AV) : ∀ l, (fr.keep l).get s = some A → fr.get s = some A
  | [], h => by simp [Fr.keep, Fr.get] at h
  | x :: l, h => by
    unfold Fr.keep at h
    cases hx : fr.get x with
    | none => simp only [hx] at h; exact Fr.keep_get fr s A l h
    | some A' =>
      simp only [hx] at h
      by_cases e : s = x
      · subst e; rw [get_cons_same] at h; rw [hx]; exact h
      · rw [get_cons_ne e] at h; exact Fr.keep_get fr s A l h
theorem aw_keep {c : Code} (l : List Nat) {fr' : Fr} (e : fr.keep l = fr') (h : AW P T0 N c Q fr' M) : AW P T0 N c Q fr M := aw_ent (ent_fr fun s A hs => Fr.keep_get fr s A l (e ▸ hs)) h
/-- a frame says no more than another one -/
def Weak (fr fr' : Fr) : Prop := ∀ G (t : Array Value), frRel G fr t → frRel G fr' t
theorem Weak.refl (fr : Fr) : Weak fr fr := fun _ _ h => h
theorem weak_nil : Weak fr [] := fun _ _ _ s A _ e => by simp [Fr.get] at e
theorem weak_cons {s : Nat} {A : AV} {r : Fr} (h : fr.get s = some A) (k : Weak fr r) : Weak fr ((s, A) :: r) := fun G t hr x B _ e => by
  by_cases hx : x = s
  · subst hx; rw [get_cons_same] at e; exact hr x B trivial (h.trans e)
  · rw [get_cons_ne hx] at e; exact k G t hr x B trivial e
theorem ent_weak {fr' : Fr} (h : Weak fr fr') : Ent T0 fr M fr' M := fun _ G _ t _ s r => ⟨G, Gh.le.refl _, s, h G t r⟩
theorem aw_weak {c : Code} {fr' : Fr} (e : Weak fr fr') (h : AW P T0 N c Q fr' M) : AW P T0 N c Q fr M := aw_ent (ent_weak e) h
/-- a loop: a state, its frame, what is owned in it, what holds of it, and a number that every round lowers -/
theorem aw_for {c : Code} {σ : Type} (fs : σ → Fr) (ms : σ → List Own) (inv : σ → Prop) (μ : σ → Nat) (s0 : σ) (h0 : inv s0) (hf0 : Weak fr (fs s0)) (hm0 : M = ms s0)
    (round : ∀ s, inv s → AW P T0 N c (thenA (fun fr' M' => ∃ s', inv s' ∧ μ s' < μ s ∧ Weak fr' (fs s') ∧ M' = ms s') Q) (fs s) (ms s)) : AW P T0 N (.loop c) Q fr M := by
  refine aw_weak hf0 ?_
  subst hm0
  refine aw_loop (fun n fr M => ∃ s, inv s ∧ n = μ s ∧ Weak fr (fs s) ∧ M = ms s) (μ s0) ⟨s0, h0, rfl, Weak.refl _, rfl⟩ ?_
  rintro n fr M ⟨s, h1, rfl, h2, rfl⟩
  refine aw_weak h2 (AW.mono (round s h1) fun e fr' M' q => ?_)
  cases e with
  | normal => obtain ⟨s', a1, a2, a3, a4⟩ := q; exact ⟨μ s', a2, s', a1, rfl, a3, a4⟩
  | _ => exact q
theorem aw_for2 {c : Code} {σ τ : Type} (fs : σ → τ → Fr) (ms : σ → τ → List Own) (inv : σ → τ → Prop) (μ : σ → τ → Nat) (s0 : σ) (t0 : τ) (h0 : inv s0 t0) (hf0 : Weak fr (fs s0 t0)) (hm0 : M = ms s0 t0)
    (round : ∀ s t, inv s t → AW P T0 N c (thenA (fun fr' M' => ∃ s' t', inv s' t' ∧ μ s' t' < μ s t ∧ Weak fr' (fs s' t') ∧ M' = ms s' t') Q) (fs s t) (ms s t)) : AW P T0 N (.loop c) Q fr M :=
  aw_for (fun x : σ × τ => fs x.1 x.2) (fun x => ms x.1 x.2) (fun x => inv x.1 x.2) (fun x => μ x.1 x.2) (s0, t0) h0 hf0 hm0 fun x hx => AW.mono (round x.1 x.2 hx) fun e fr' M' q => by
    cases e with
    | normal => obtain ⟨s', t', a⟩ := q; exact ⟨(s', t'), a⟩
    | _ => exact q
theorem aw_for3 {c : Code} {σ τ ρ : Type} (fs : σ → τ → ρ → Fr) (ms : σ → τ → ρ → List Own) (inv : σ → τ → ρ → Prop) (μ : σ → τ → ρ → Nat) (s0 : σ) (t0 : τ) (r0 : ρ) (h0 : inv s0 t0 r0) (hf0 : Weak fr (fs s0 t0 r0)) (hm0 : M = ms s0 t0 r0)
    (round : ∀ s t r, inv s t r → AW P T0 N c (thenA (fun fr' M' => ∃ s' t' r', inv s' t' r' ∧ μ s' t' r' < μ s t r ∧ Weak fr' (fs s' t' r') ∧ M' = ms s' t' r') Q) (fs s t r) (ms s t r)) : AW P T0 N (.loop c) Q fr M :=
  aw_for (fun x : σ × τ × ρ => fs x.1 x.2.1 x.2.2) (fun x => ms x.1 x.2.1 x.2.2) (fun x => inv x.1 x.2.1 x.2.2) (fun x => μ x.1 x.2.1 x.2.2) (s0, t0, r0) h0 hf0 hm0 fun x hx => AW.mono (round x.1 x.2.1 x.2.2 hx) fun e fr' M' q => by
    cases e with
    | normal => obtain ⟨s', t', r', a⟩ := q; exact ⟨(s', t', r'), a⟩
    | _ => exact q
theorem aw_perm {c : Code} {M' : List Own} (p : List.Perm M' M) (h : AW P T0 N c Q fr M') : AW P T0 N c Q fr M :=
  aw_ent (fun _ G _ _ _ s r => ⟨G, Gh.le.refl _, s.perm (p.append_right _), r⟩) h
theorem ent_drop {M' : List Own} (p : List.Sublist M' M) : Ent T0 fr M fr M' := fun _ G F _ _ s r => ⟨G, Gh.le.refl _, s.sub (p.append (List.Sublist.refl F)), r⟩

/-! ### Operations -/
abbrev reads (ops : Array Oper) (o : Oper) (s : Nat) : Prop := s ∈ o.looksAt ops
/-- an operation alone: K is told of what it yields and of what is owned then; KP of a panic -/
def AO (P : Program) (T0 : Gh) (ops : Array Oper) (o : Oper) (fr : Fr) (M : List Own) (K : AV → List Own → Prop) (KP : List PanicEntry → List Own → Prop) : Prop :=
  ∀ w0 G F (a : Act) w (next : Act → World → Prop) (Qc : Exit → Act → World → Prop), St T0 w0 G (M ++ F) w → frOn G (reads ops o) fr a.tmps →
    (∀ A M' G' u w', K A M' → Gh.le G G' → St T0 w0 G' (M' ++ F) w' → Rep G' A u → next (a.put o.dst u) w') →
    (∀ c M' G' w', KP c M' → Gh.le G G' → St T0 w0 G' (M' ++ F) w' → Qc (.panic c) a w') → o.wp P a w next Qc
/-- a quiet one: nothing that is owned turns, and A is yielded -/
abbrev AY (P : Program) (T0 : Gh) (ops : Array Oper) (o : Oper) (fr : Fr) (M : List Own) (A : AV) : Prop := AO P T0 ops o fr M (fun A' M' => A' = A ∧ M' = M) (fun _ _ => False)
/-- its guard beside it -/
def QY (P : Program) (T0 : Gh) (ops : Array Oper) (o : Oper) (fr : Fr) (M : List Own) (A : AV) : Prop :=
  ∀ w0 G F (a : Act) w, St T0 w0 G (M ++ F) w → frOn G (reads ops o) fr a.tmps →
    (Region.wanted o (yielded ops a.tmps) = true → ∀ (next : Act → World → Prop) (Qc : Exit → Act → World → Prop), (∀ G' u w', Gh.le G G' → St T0 w0 G' (M ++ F) w' → Rep G' A u → next (a.put o.dst u) w') → o.wp P a w next Qc) ∧
    (Region.wanted o (yielded ops a.tmps) = false → Rep G A undef)

/-- lists of operations; d: the region draws its order: then all of them are quiet -/
def AQ (P : Program) (T0 : Gh) (N : Fz) (ops : Array Oper) (Q : Fr → Prop) (M : List Own) : List Oper → Fr → Prop
  | [], fr => Q fr
  | o :: rest, fr => (∀ x, o.dst = some x → x < N.n) ∧ ∃ A, QY P T0 ops o fr M A ∧ AQ P T0 N ops Q M rest (fr.put o.dst A)
def AE (P : Program) (T0 : Gh) (N : Fz) (ops : Array Oper) (Q : Post) (l : List Oper) (fr : Fr) (M : List Own) : Prop := ∀ w0 G F a w, Con T0 N w0 G F fr M a w → wpList P ops (cQ T0 N w0 G F Q) l a w
/-- each operation but the last one is one that a later one waits for -/
def lastB (md : Region.Mode) (ops : Array Oper) : Bool := (List.range (ops.size - 1)).all fun i => (List.range ops.size).any fun k => decide (i < k) && (ops[k]?).any fun o => o.after.any fun e => Region.binds md e && e.on == i
theorem last_spec {md : Region.Mode} {ops : Array Oper} (h : lastB md ops = true) {i : Nat} (hi : i < ops.size - 1) : ∃ k o, i < k ∧ ops[k]? = some o ∧ ∃ e ∈ o.after, Region.binds md e = true ∧ e.on = i := by
  have := List.all_eq_true.1 h i (List.mem_range.2 hi)
  obtain ⟨k, _, h2⟩ := List.any_eq_true.1 this
  simp only [Bool.and_eq_true, decide_eq_true_eq] at h2
  obtain ⟨h3, h4⟩ := h2
  cases ho : ops[k]? with
  | none => rw [ho] at h4; cases h4
  | some o =>
    rw [ho] at h4
    simp only [Option.any_some, Array.any_eq_true, Bool.and_eq_true, beq_iff_eq] at h4
    obtain ⟨n, hn, h5, h6⟩ := h4
    exact ⟨k, o, h3, ho, _, Array.getElem_mem hn, h5, h6⟩
/-- what is listed has all that it waits for listed -/
def Shut (md : Region.Mode) (ops : Array Oper) (listed : Array Bool) : Prop := ∀ k o, ops[k]? = some o → listed.getD k false = true → ∀ e ∈ o.after, Region.binds md e = true → listed.getD e.on false = true
theorem Shut.put {md : Region.Mode} {ops : Array Oper} {listed : Array Bool} {i : Nat} (h : Shut md ops listed) (hi : i ∈ Region.ready md ops listed) : Shut md ops (listed.setIfInBounds i true) := fun k o ho hk e he hb => by
  by_cases hki : i = k
  · subst hki
    obtain ⟨_, o', ho', hall⟩ := mem_ready.1 hi
    rw [ho] at ho'; obtain rfl := Option.some.inj ho'
    exact getD_set_true (hall e he hb)
  · rw [getD_set_ne false hki] at hk
    exact getD_set_true (h k o ho hk e he hb)
theorem shut_none {md : Region.Mode} {ops : Array Oper} (n : Nat) : Shut md ops (Array.replicate n false) := fun k o _ hk => by
  by_cases hn : k < n
  · simp [hn] at hk
  · simp [hn] at hk
theorem last_all {md : Region.Mode} {ops : Array Oper} {listed : Array Bool} (hS : Shut md ops listed) (hlast : lastB md ops = true) (hL : ops.size - 1 ∈ Region.ready md ops listed) : ∀ n i, ops.size - 1 - i = n → i < ops.size - 1 → listed.getD i false = true := by
  intro n
  induction n using Nat.strongRecOn with
  | _ n ih =>
    intro i hn hi
    obtain ⟨k, o, h1, h2, e, h3, h4, h5⟩ := last_spec hlast hi
    have hk : k < ops.size := (Array.getElem?_eq_some_iff.1 h2).1
    by_cases hkL : k = ops.size - 1
    · obtain ⟨_, o', ho', hall⟩ := mem_ready.1 hL
      rw [← hkL, h2] at ho'; obtain rfl := Option.some.inj ho'
      rw [← h5]; exact hall e h3 h4
    · have := ih (ops.size - 1 - k) (by omega) k rfl (by omega)
      rw [← h5]; exact hS k o h2 this e h3 h4
/-- quiet operations, the last one perhaps any other -/
def AQ2 (P : Program) (T0 : Gh) (N : Fz) (ops : Array Oper) (QA : Fr → Prop) (QB : Oper → Fr → Prop) (M : List Own) : List Oper → Fr → Prop
  | [], fr => QA fr
  | o :: rest, fr => (rest = [] ∧ QB o fr) ∨ ((∀ x, o.dst = some x → x < N.n) ∧ ∃ A, QY P T0 ops o fr M A ∧ AQ2 P T0 N ops QA QB M rest (fr.put o.dst A))
def AL (P : Program) (T0 : Gh) (N : Fz) (d : Bool) (ops : Array Oper) (Q : Post) (l : List Oper) (fr : Fr) (M : List Own) : Prop :=
  if d = true then AQ2 P T0 N ops (fun fr' => Q .normal fr' M) (fun o fr' => lastB .any ops = true ∧ AE P T0 N ops Q [o] fr' M) M l fr else AE P T0 N ops Q l fr M

theorem wpList_mono {P : Program} {ops : Array Oper} {Q Q' : Exit → Act → World → Prop} (hq : ∀ e a w, Q e a w → Q' e a w) : ∀ (l : List Oper) (a : Act) (w : World), wpList P ops Q l a w → wpList P ops Q' l a w
  | [], _, _, h => hq _ _ _ h
  | o :: l, a, w, h => by
    unfold wpList at h ⊢
    split
    · rename_i hw; rw [if_pos hw] at h
      refine h.imp (fun h => ?_) (fun h => ⟨h.1, let ⟨x, y, z⟩ := h.2; ⟨x, y, hq _ _ _ z⟩⟩)
      unfold Oper.wp at h ⊢
      generalize (execOp a.eval o).run P w = r at *
      cases r with
      | ok n w' =>
        cases n <;> simp only [Oper.upon] at h ⊢ <;>
          first
            | exact wpList_mono hq l _ _ h
            | exact Calls.mono h (fun e w'' he => by
                cases e
                · exact wpList_mono hq l _ _ he
                · exact hq _ _ _ he
                · obtain ⟨x, y, z⟩ := he; exact ⟨x, y, hq _ _ _ z⟩)
            | exact Rows.mono h (fun _ _ he => wpList_mono hq l _ _ he)
      | halt x w' => cases x <;> simp only [Oper.upon] at h ⊢ <;> first | exact hq _ _ _ h | exact h
    · rename_i hw; rw [if_neg hw] at h; exact wpList_mono hq l _ _ h

theorem ae_nil {ops : Array Oper} (h : Q .normal fr M) : AE P T0 N ops Q [] fr M := fun _ _ _ _ _ hc => ⟨fr, M, _, h, Gh.le.refl _, hc⟩
theorem al_nil {d : Bool} {ops : Array Oper} (h : Q .normal fr M) : AL P T0 N d ops Q [] fr M := by
  unfold AL; split
  · exact h
  · exact ae_nil h
theorem Con.put {w0 : World} {G G' : Gh} {F : List Own} {a : Act} {w w' : World} {M' : List Own} (hc : Con T0 N w0 G F fr M a w) (hl : Gh.le G G') (hs : St T0 w0 G' (M' ++ F) w') {d : Option Tmp} {A : AV} {u : Value} (hd : ∀ x, d = some x → x < N.n) (hu : Rep G' A u) :
    Con T0 N w0 G' F (fr.put d A) M' (a.put d u) w' :=
  ⟨hs, frRel.put (frOn.gmono hl hc.fr) (by rw [hc.size]; exact hd) hu, by rw [size_put]; exact hc.size, by rw [defers_put]; exact hc.defers⟩
/-- a quiet operation -/
theorem al_y {d : Bool} {ops : Array Oper} {o : Oper} {rest : List Oper} {A : AV} {x : Nat} (hy : QY P T0 ops o fr M A) (hx : o.dst = some x) (hd : Nat.blt x N.n = true) (h : AL P T0 N d ops Q rest ((x, A) :: fr) M) : AL P T0 N d ops Q (o :: rest) fr M := by
  have hd' : ∀ y, o.dst = some y → y < N.n := fun y hy' => by rw [hx] at hy'; obtain rfl := Option.some.inj hy'; simpa using hd
  have hput : ∀ A : AV, fr.put o.dst A = (x, A) :: fr := fun A => by rw [hx]; rfl
  unfold AL at h ⊢
  split
  · rename_i hdr; rw [if_pos hdr] at h
    exact .inr ⟨hd', A, hy, by rw [hput]; exact h⟩
  · rename_i hdr; rw [if_neg hdr] at h
    intro w0 G F a w hc
    obtain ⟨h1, h2⟩ := hy w0 G F a w hc.st (fun s A _ e => hc.fr s A trivial e)
    unfold wpList
    by_cases hw : Region.wanted o (yielded ops a.tmps) = true
    · rw [if_pos hw]
      refine .inl (h1 hw _ _ fun G' u w' hl hs hu => ?_)
      have hc' := hc.put hl hs hd' hu
      rw [hput] at hc'
      exact wpList_mono (fun _ _ _ q => q.mono (fun _ _ _ h => h) hl) _ _ _ (h w0 G' F _ w' hc')
    · rw [if_neg hw]
      have hc' := hc.put (Gh.le.refl _) hc.st hd' (h2 (by simpa using hw))
      rw [hput] at hc'
      exact h w0 G F _ w hc'
/-- any operation, where the order is the text's -/
theorem al_e {ops : Array Oper} {o : Oper} {rest : List Oper} {K : AV → List Own → Prop} {KP : List PanicEntry → List Own → Prop} (hg : o.guard = none) (hy : AO P T0 ops o fr M K KP) (hd : (o.dst.all fun x => Nat.blt x N.n) = true)
    (hp : ∀ c M', KP c M' → Q (.panic c) fr M') (h : ∀ A M', K A M' → AL P T0 N false ops Q rest (fr.put o.dst A) M') : AL P T0 N false ops Q (o :: rest) fr M := by
  have hd' : ∀ x, o.dst = some x → x < N.n := fun x hx => by rw [hx] at hd; simpa using hd
  simp only [AL, Bool.false_eq_true, if_false] at h ⊢
  intro w0 G F a w hc
  refine wpList_plain hg fun K' hK => ?_
  refine hy w0 G F a w _ _ hc.st (fun s A _ e => hc.fr s A trivial e) (fun A M' G' u w' hk hl hs hu => ?_) (fun c M' G' w' hk hl hs => ?_)
  · refine hK _ _ (wpList_mono (fun _ _ _ q => q.mono (fun _ _ _ h => h) hl) _ _ _ (h A M' hk w0 G' F _ w' (hc.put hl hs hd' hu)))
  · exact ⟨fr, M', G', hp c M' hk, hl, hs, frOn.gmono hl hc.fr, hc.size, hc.defers⟩
/-- .. that yields into a slot ¦ that yields nothing -/
theorem al_es {ops : Array Oper} {o : Oper} {rest : List Oper} {x : Nat} {K : AV → List Own → Prop} {KP : List PanicEntry → List Own → Prop} (hg : o.guard = none) (hy : AO P T0 ops o fr M K KP) (hx : o.dst = some x) (hd : Nat.blt x N.n = true)
    (hp : ∀ c M', KP c M' → Q (.panic c) fr M') (h : ∀ A M', K A M' → AL P T0 N false ops Q rest ((x, A) :: fr) M') : AL P T0 N false ops Q (o :: rest) fr M :=
  al_e hg hy (by rw [hx]; simpa using hd) hp fun A M' hk => by rw [hx]; exact h A M' hk
theorem al_en {ops : Array Oper} {o : Oper} {rest : List Oper} {K : AV → List Own → Prop} {KP : List PanicEntry → List Own → Prop} (hg : o.guard = none) (hy : AO P T0 ops o fr M K KP) (hx : o.dst = none)
    (hp : ∀ c M', KP c M' → Q (.panic c) fr M') (h : ∀ A M', K A M' → AL P T0 N false ops Q rest fr M') : AL P T0 N false ops Q (o :: rest) fr M :=
  al_e hg hy (by rw [hx]; rfl) hp fun A M' hk => by rw [hx]; exact h A M' hk
theorem al_ent {ops : Array Oper} {l : List Oper} {fr' : Fr} {M' : List Own} (e : Ent T0 fr M fr' M') (h : AL P T0 N false ops Q l fr' M') : AL P T0 N false ops Q l fr M := by
  simp only [AL, Bool.false_eq_true, if_false] at h ⊢
  intro w0 G F a w hc
  obtain ⟨G', hl, hc'⟩ := e.con hc
  exact wpList_mono (fun _ _ _ q => q.mono (fun _ _ _ h => h) hl) _ _ _ (h w0 G' F a w hc')

theorem qy_plain {ops : Array Oper} {o : Oper} {A : AV} (hg : o.guard = none) (h : AY P T0 ops o fr M A) : QY P T0 ops o fr M A := fun w0 G F a w hs hf =>
  ⟨fun _ next Qc k => h w0 G F a w next Qc hs hf (fun A' M' G' u w' e hl hs' hu => by obtain ⟨rfl, rfl⟩ := e; exact k G' u w' hl hs' hu) (fun _ _ _ _ f _ _ => f.elim), fun hw => by simp [Region.wanted, hg] at hw⟩
/-- what is known of a guard's slot: it holds a bool c where k is true, and none where k is false -/
def GuardIs (fr : Fr) (t : Nat) (k c : Bool) : Prop := (k = true ∧ fr.get t = some (B c)) ∨ fr.get t = some (gvA k (B c))
theorem guard_b {t : Nat} {c : Bool} (h : fr.get t = some (B c)) : GuardIs fr t true c := .inl ⟨rfl, h⟩
theorem guard_gv {t : Nat} {k c : Bool} (h : fr.get t = some (gvA k (B c))) : GuardIs fr t k c := .inr h
theorem wanted_of {ops : Array Oper} {o : Oper} {g t : Nat} {want k c : Bool} {a : Act} {G : Gh} (hg : o.guard = some (g, want)) (ht : (ops[g]?).bind (·.dst) = some t) (hs : GuardIs fr t k c) (hf : frOn G (reads ops o) fr a.tmps) :
    Region.wanted o (yielded ops a.tmps) = (k && (c == want)) := by
  have hr : reads ops o t := by
    unfold reads Oper.looksAt
    rw [hg]; simp [ht]
  unfold Region.wanted yielded
  rw [hg]
  simp only [ht, Option.bind_some]
  rcases hs with ⟨rfl, hs⟩ | hs
  · obtain ⟨u, h1, h2⟩ := hf t _ hr hs
    obtain rfl := h2.eq
    rw [h1]; cases c <;> cases want <;> rfl
  · obtain ⟨u, h1, h2⟩ := hf t _ hr hs
    rw [h1]
    cases k with
    | true => obtain rfl := (h2.gv.1 rfl).eq; cases c <;> cases want <;> rfl
    | false => obtain rfl := h2.gv.2 rfl; cases want <;> rfl
theorem qy_run {ops : Array Oper} {o : Oper} {A : AV} {g t : Nat} {want k c : Bool} (hg : o.guard = some (g, want)) (ht : (ops[g]?).bind (·.dst) = some t) (hs : GuardIs fr t k c) (hc : (k && (c == want)) = true) (h : AY P T0 ops o fr M A) : QY P T0 ops o fr M A := fun w0 G F a w st hf =>
  ⟨fun _ next Qc kk => h w0 G F a w next Qc st hf (fun A' M' G' u w' e hl hs' hu => by obtain ⟨rfl, rfl⟩ := e; exact kk G' u w' hl hs' hu) (fun _ _ _ _ f _ _ => f.elim), fun hw => by rw [wanted_of hg ht hs hf, hc] at hw; cases hw⟩
theorem qy_skip {ops : Array Oper} {o : Oper} {g t : Nat} {want k c : Bool} (hg : o.guard = some (g, want)) (ht : (ops[g]?).bind (·.dst) = some t) (hs : GuardIs fr t k c) (hc : (k && (c == want)) = false) : QY P T0 ops o fr M anyA := fun w0 G F a w st hf =>
  ⟨fun hw => (by rw [wanted_of hg ht hs hf, hc] at hw; cases hw), fun _ => Rep.any _ _⟩
theorem qy_gv {ops : Array Oper} {o : Oper} {A : AV} {g t : Nat} {want k c : Bool} (hg : o.guard = some (g, want)) (ht : (ops[g]?).bind (·.dst) = some t) (hs : GuardIs fr t k c) (h : (k && (c == want)) = true → AY P T0 ops o fr M A) : QY P T0 ops o fr M (gvA (k && (c == want)) A) := fun w0 G F a w st hf => by
  refine ⟨fun hw next Qc kk => ?_, fun hw => ?_⟩
  · rw [wanted_of hg ht hs hf] at hw
    refine h hw w0 G F a w next Qc st hf (fun A' M' G' u w' e hl hs' hu => ?_) (fun _ _ _ _ f _ _ => f.elim)
    obtain ⟨rfl, rfl⟩ := e
    exact kk G' u w' hl hs' (.of ⟨fun _ => hu, fun e => (by rw [hw] at e; cases e)⟩)
  · rw [wanted_of hg ht hs hf] at hw
    exact .of ⟨fun e => (by rw [hw] at e; cases e), fun _ => rfl⟩
theorem gd {k c want : Bool} (h : k = true) (h' : c = want) : (k && (c == want)) = true := by subst h h'; simp
theorem gl {k c : Bool} (h : (k && c) = true) : k = true := (Bool.and_eq_true_iff.1 h).1

/-! ### Regions -/
theorem aw_region0 {id : Nat} {l : List Oper} (h : AL P T0 N false l.toArray Q l fr M) : AW P T0 N (.region id l.toArray false) Q fr M := fun w0 G F a w hc => by
  simp only [AL, Bool.false_eq_true, if_false] at h
  exact wp_region_lit (h w0 G F a w hc)

/-- whatever order is picked from here on -/
def wpAnyA (P : Program) (T0 : Gh) (N : Fz) (md : Region.Mode) (ops : Array Oper) (Q : Fr → Prop) (M : List Own) : Nat → Array Bool → Fr → Prop
  | 0, listed, fr => Region.ready md ops listed = [] ∧ Q fr
  | fuel + 1, listed, fr => (Region.ready md ops listed = [] → Q fr) ∧
    ∀ i ∈ Region.ready md ops listed, ∀ o, ops[i]? = some o → (∀ x, o.dst = some x → x < N.n) ∧ ∃ A, QY P T0 ops o fr M A ∧ wpAnyA P T0 N md ops Q M fuel (listed.setIfInBounds i true) (fr.put o.dst A)
theorem wpAny_of_A {md : Region.Mode} {ops : Array Oper} {QA : Fr → Prop} {w0 : World} {F : List Own} {G0 : Gh} {Qc : Exit → Act → World → Prop}
    (hQ : ∀ fr' G a w, Gh.le G0 G → QA fr' → Con T0 N w0 G F fr' M a w → Qc .normal a w) : ∀ (fuel : Nat) (listed : Array Bool) (fr : Fr) (G : Gh) (a : Act) (w : World), Gh.le G0 G → Con T0 N w0 G F fr M a w →
    wpAnyA P T0 N md ops QA M fuel listed fr → wpAny P md ops Qc fuel listed a w
  | 0, _, _, _, _, _, hl, hc, h => ⟨h.1, hQ _ _ _ _ hl h.2 hc⟩
  | fuel + 1, listed, fr, G, a, w, hl, hc, h => by
    refine ⟨fun h0 => hQ _ _ _ _ hl (h.1 h0) hc, fun i hi => ?_⟩
    unfold wpOp
    cases ho : ops[i]? with
    | none => have := (mem_ready.1 hi).2; rw [ho] at this; obtain ⟨_, e, _⟩ := this; cases e
    | some o =>
      obtain ⟨hd, A, hy, hr⟩ := h.2 i hi o ho
      obtain ⟨h1, h2⟩ := hy w0 G F a w hc.st (fun s A _ e => hc.fr s A trivial e)
      simp only
      by_cases hw : Region.wanted o (yielded ops a.tmps) = true
      · rw [if_pos hw]
        refine .inl (h1 hw _ _ fun G' u w' hl' hs hu => ?_)
        exact wpAny_of_A hQ fuel _ _ G' _ w' (hl.trans hl') (hc.put hl' hs hd hu) hr
      · rw [if_neg hw]
        exact wpAny_of_A hQ fuel _ _ G _ w hl (hc.put (Gh.le.refl _) hc.st hd (h2 (by simpa using hw))) hr

/-- QY looks only at what the operation reads -/
theorem QY.other {ops : Array Oper} {o : Oper} {A : AV} {fr' : Fr} (h : QY P T0 ops o fr M A) (he : ∀ s, reads ops o s → fr'.get s = fr.get s) : QY P T0 ops o fr' M A := fun w0 G F a w hs hf =>
  h w0 G F a w hs (fun s A hr e => hf s A hr (by rw [he s hr]; exact e))
theorem get_put_ne {d : Option Tmp} {A : AV} {s : Nat} (h : ∀ x, d = some x → s ≠ x) : (fr.put d A).get s = fr.get s := by
  cases d with
  | none => rfl
  | some d => exact get_cons_ne (h d rfl)
/-- frames that look alike serve alike -/
theorem wpAnyA_same {md : Region.Mode} {ops : Array Oper} {QA : Fr → Prop} (hQ : ∀ fr fr' : Fr, (∀ s, fr'.get s = fr.get s) → QA fr → QA fr') : ∀ (fuel : Nat) (listed : Array Bool) (fr fr' : Fr), (∀ s, fr'.get s = fr.get s) → wpAnyA P T0 N md ops QA M fuel listed fr → wpAnyA P T0 N md ops QA M fuel listed fr'
  | 0, _, fr, fr', he, h => ⟨h.1, hQ fr fr' he h.2⟩
  | fuel + 1, listed, fr, fr', he, h => by
    refine ⟨fun h0 => hQ fr fr' he (h.1 h0), fun i hi o ho => ?_⟩
    obtain ⟨hd, A, hy, hr⟩ := h.2 i hi o ho
    refine ⟨hd, A, hy.other (fun s _ => he s), wpAnyA_same hQ fuel _ _ _ (fun s => ?_) hr⟩
    cases hdst : o.dst with
    | none => exact he s
    | some d =>
      by_cases e : s = d
      · subst e; simp only [Fr.put, get_cons_same]
      · simp only [Fr.put, get_cons_ne e]; exact he s
theorem put_put_get {d e : Option Tmp} {A A' : AV} (h : ∀ x, d = some x → e ≠ some x) (s : Nat) : ((fr.put d A).put e A').get s = ((fr.put e A').put d A).get s := by
  cases d with
  | none => rfl
  | some d =>
    cases e with
    | none => rfl
    | some e =>
      have hne : d ≠ e := fun x => h d rfl (by rw [x])
      by_cases h1 : s = d
      · subst h1; simp only [Fr.put, get_cons_same, get_cons_ne hne]
      · by_cases h2 : s = e
        · subst h2; simp only [Fr.put, get_cons_same, get_cons_ne h1]
        · simp only [Fr.put, get_cons_ne h1, get_cons_ne h2]
/-- an operation that may come up now may be taken first -/
theorem wpAnyA_first {md : Region.Mode} {ops : Array Oper} {QA : Fr → Prop} (hQ : ∀ fr fr' : Fr, (∀ s, fr'.get s = fr.get s) → QA fr → QA fr') {i : Nat} {oi : Oper} {A : AV} (hi : ops[i]? = some oi) (hdi : ∀ x, oi.dst = some x → x < N.n) :
    ∀ (fuel : Nat) (listed : Array Bool) (fr : Fr),
      (∀ j oj, ops[j]? = some oj → j ≠ i → listed.getD j true = false → (∀ e ∈ oj.after, Region.binds md e = true → e.on ≠ i) → oi.apart ops oj = true) →
      i ∈ Region.ready md ops listed → QY P T0 ops oi fr M A →
      wpAnyA P T0 N md ops QA M fuel (listed.setIfInBounds i true) (fr.put oi.dst A) → wpAnyA P T0 N md ops QA M (fuel + 1) listed fr := by
  intro fuel
  induction fuel with
  | zero =>
    intro listed fr _ hr hy H
    refine ⟨fun h => (by rw [h] at hr; cases hr), fun j hj o ho => ?_⟩
    by_cases hji : j = i
    · subst hji; rw [hi] at ho; obtain rfl := Option.some.inj ho; exact ⟨hdi, A, hy, H⟩
    · have := ready_mono hj hji
      rw [H.1] at this
      cases this
  | succ fuel ih =>
    intro listed fr hfree hr hy H
    refine ⟨fun h => (by rw [h] at hr; cases hr), fun j hj o ho => ?_⟩
    by_cases hji : j = i
    · subst hji; rw [hi] at ho; obtain rfl := Option.some.inj ho; exact ⟨hdi, A, hy, H⟩
    · obtain ⟨hd, A', hy', hr'⟩ := H.2 j (ready_mono hj hji) o ho
      obtain ⟨hjun, oj, hoj, hall⟩ := mem_ready.1 hj
      rw [ho] at hoj; obtain rfl := Option.some.inj hoj
      have hnot : ∀ e ∈ o.after, Region.binds md e = true → e.on ≠ i := fun e he hb heq => by
        have h1 := hall e he hb
        have h0 := (mem_ready.1 hr).1
        rw [heq] at h1
        rcases Nat.lt_or_ge i listed.size with h' | h'
        · simp [h'] at h0 h1; rw [h0] at h1; cases h1
        · simp [Array.getElem?_eq_none h'] at h1
      obtain ⟨p1, p2, p3⟩ := Oper.apart_spec (hfree j o ho hji hjun hnot)
      have hfree' : ∀ k ok, ops[k]? = some ok → k ≠ i → (listed.setIfInBounds j true).getD k true = false →
          (∀ e ∈ ok.after, Region.binds md e = true → e.on ≠ i) → oi.apart ops ok = true := fun k ok hk hki hun hno => by
        refine hfree k ok hk hki ?_ hno
        by_cases hjk : j = k
        · subst hjk; exact hjun
        · rw [getD_set_ne true hjk] at hun; exact hun
      refine ⟨hd, A', hy'.other (fun s hs => (get_put_ne fun x hx e => p1 x hx (e ▸ hs)).symm), ?_⟩
      refine ih (listed.setIfInBounds j true) _ hfree' (ready_mono hr (Ne.symm hji)) (hy.other fun s hs => get_put_ne fun x hx e => p3 x hx (e ▸ hs)) ?_
      rw [Array.setIfInBounds_comm _ _ hji]
      exact wpAnyA_same hQ fuel _ _ _ (fun s => put_put_get (fun x hx e => p2 x (by rw [← e]) hx |>.elim) s) hr'
theorem wpAnyA_lex {md : Region.Mode} {ops : Array Oper} {QA : Fr → Prop} (hQ : ∀ fr fr' : Fr, (∀ s, fr'.get s = fr.get s) → QA fr → QA fr') : ∀ (l : List Oper) (k : Nat) (listed : Array Bool) (fr : Fr), (∀ j, l[j]? = ops[k + j]?) →
    Region.lexFrom md ops l.length k listed = true → AQ P T0 N ops QA M l fr → wpAnyA P T0 N md ops QA M l.length listed fr
  | [], _, _, _, _, hB, h => ⟨by simpa [Region.lexFrom] using hB, h⟩
  | o :: l, k, listed, fr, hl, hB, h => by
    have h0 : ops[k]? = some o := by simpa using (hl 0).symm
    simp only [List.length_cons, Region.lexFrom, Bool.and_eq_true] at hB
    obtain ⟨⟨hr, hf⟩, hB'⟩ := hB
    obtain ⟨hd, A, hy, hk⟩ := h
    exact wpAnyA_first hQ h0 hd l.length listed fr (Region.free_spec h0 hf) (by simpa using hr) hy
      (wpAnyA_lex hQ l (k + 1) _ _ (fun j => by have := hl (j + 1); simpa [Nat.add_assoc, Nat.add_comm 1 j] using this) hB' hk)
/-- a post that looks at the frame by its slots alone -/
def Post.Slots (Q : Post) : Prop := ∀ e (fr fr' : Fr) M, (∀ s, fr'.get s = fr.get s) → Q e fr M → Q e fr' M
theorem AW.same {c : Code} {fr' : Fr} (he : ∀ s, fr'.get s = fr.get s) (h : AW P T0 N c Q fr M) : AW P T0 N c Q fr' M :=
  aw_ent (ent_fr fun s A hs => by rw [he s]; exact hs) h
theorem op_mono {o : Oper} {a : Act} {w : World} {K K' : Act → World → Prop} {Qc : Exit → Act → World → Prop} (hk : ∀ a w, K a w → K' a w) (h : o.wp P a w K Qc) : o.wp P a w K' Qc := by
  unfold Oper.wp at h ⊢
  generalize (execOp a.eval o).run P w = r at *
  cases r with
  | ok n w' =>
    cases n <;> simp only [Oper.upon] at h ⊢ <;>
      first
        | exact hk _ _ h
        | exact h
        | exact Calls.mono h (fun e w'' he => by
            cases e
            · exact hk _ _ he
            · exact he
            · exact he)
        | exact Rows.mono h (fun _ _ he => hk _ _ he)
  | halt x w' => cases x <;> simp only [Oper.upon] at h ⊢ <;> exact h
def wpAnyB (P : Program) (T0 : Gh) (N : Fz) (md : Region.Mode) (ops : Array Oper) (L : Nat) (QB : Fr → Prop) (M : List Own) : Nat → Array Bool → Fr → Prop
  | 0, _, _ => False
  | fuel + 1, listed, fr => Region.ready md ops listed ≠ [] ∧ ∀ i ∈ Region.ready md ops listed, ∀ o, ops[i]? = some o →
      (i = L ∧ fuel = 0 ∧ Region.ready md ops (listed.setIfInBounds i true) = [] ∧ QB fr) ∨ (i ≠ L ∧ (∀ x, o.dst = some x → x < N.n) ∧ ∃ A, QY P T0 ops o fr M A ∧ wpAnyB P T0 N md ops L QB M fuel (listed.setIfInBounds i true) (fr.put o.dst A))
theorem wpAny_of_B {md : Region.Mode} {ops : Array Oper} {L : Nat} {oL : Oper} {QB : Fr → Prop} {w0 : World} {F : List Own} {G0 : Gh} {Qc : Exit → Act → World → Prop} (hoL : ops[L]? = some oL)
    (hQ : ∀ fr' G a w, Gh.le G0 G → QB fr' → Con T0 N w0 G F fr' M a w → wpList P ops Qc [oL] a w) : ∀ (fuel : Nat) (listed : Array Bool) (fr : Fr) (G : Gh) (a : Act) (w : World), Gh.le G0 G → Con T0 N w0 G F fr M a w →
    wpAnyB P T0 N md ops L QB M fuel listed fr → wpAny P md ops Qc fuel listed a w
  | 0, _, _, _, _, _, _, _, h => h.elim
  | fuel + 1, listed, fr, G, a, w, hl, hc, h => by
    refine ⟨fun h0 => absurd h0 h.1, fun i hi => ?_⟩
    unfold wpOp
    cases ho : ops[i]? with
    | none => have := (mem_ready.1 hi).2; rw [ho] at this; obtain ⟨_, e, _⟩ := this; cases e
    | some o =>
      rcases h.2 i hi o ho with ⟨rfl, rfl, hnone, hq⟩ | ⟨_, hd, A, hy, hr⟩
      · rw [ho] at hoL; obtain rfl := Option.some.inj hoL
        have h3 := hQ fr G a w hl hq hc
        simp only
        unfold wpList at h3
        split at h3
        · rename_i hw
          rw [if_pos hw]
          exact h3.imp (fun h => op_mono (fun a w h => ⟨hnone, h⟩) h) (fun h => h)
        · rename_i hw
          rw [if_neg hw]
          exact ⟨hnone, h3⟩
      · obtain ⟨h1, h2⟩ := hy w0 G F a w hc.st (fun s A _ e => hc.fr s A trivial e)
        simp only
        by_cases hw : Region.wanted o (yielded ops a.tmps) = true
        · rw [if_pos hw]
          refine .inl (h1 hw _ _ fun G' u w' hl' hs hu => ?_)
          exact wpAny_of_B hoL hQ fuel _ _ G' _ w' (hl.trans hl') (hc.put hl' hs hd hu) hr
        · rw [if_neg hw]
          exact wpAny_of_B hoL hQ fuel _ _ G _ w hl (hc.put (Gh.le.refl _) hc.st hd (h2 (by simpa using hw))) hr
theorem wpAnyB_same {md : Region.Mode} {ops : Array Oper} {L : Nat} {QB : Fr → Prop} (hQ : ∀ fr fr' : Fr, (∀ s, fr'.get s = fr.get s) → QB fr → QB fr') : ∀ (fuel : Nat) (listed : Array Bool) (fr fr' : Fr), (∀ s, fr'.get s = fr.get s) → wpAnyB P T0 N md ops L QB M fuel listed fr → wpAnyB P T0 N md ops L QB M fuel listed fr'
  | 0, _, _, _, _, h => h
  | fuel + 1, listed, fr, fr', he, h => by
    refine ⟨h.1, fun i hi o ho => ?_⟩
    rcases h.2 i hi o ho with ⟨h1, h2, h3, h4⟩ | ⟨h1, hd, A, hy, hr⟩
    · exact .inl ⟨h1, h2, h3, hQ fr fr' he h4⟩
    · refine .inr ⟨h1, hd, A, hy.other (fun s _ => he s), wpAnyB_same hQ fuel _ _ _ (fun s => ?_) hr⟩
      cases hdst : o.dst with
      | none => exact he s
      | some d =>
        by_cases e : s = d
        · subst e; simp only [Fr.put, get_cons_same]
        · simp only [Fr.put, get_cons_ne e]; exact he s
theorem wpAnyB_first {md : Region.Mode} {ops : Array Oper} {QB : Fr → Prop} (hQ : ∀ fr fr' : Fr, (∀ s, fr'.get s = fr.get s) → QB fr → QB fr') (hlast : lastB md ops = true) {i : Nat} {oi : Oper} {A : AV} (hi : ops[i]? = some oi) (hiL : i < ops.size - 1) (hdi : ∀ x, oi.dst = some x → x < N.n) :
    ∀ (fuel : Nat) (listed : Array Bool) (fr : Fr),
      (∀ j oj, ops[j]? = some oj → j ≠ i → listed.getD j true = false → (∀ e ∈ oj.after, Region.binds md e = true → e.on ≠ i) → oi.apart ops oj = true) →
      Shut md ops listed → i ∈ Region.ready md ops listed → QY P T0 ops oi fr M A →
      wpAnyB P T0 N md ops (ops.size - 1) QB M fuel (listed.setIfInBounds i true) (fr.put oi.dst A) → wpAnyB P T0 N md ops (ops.size - 1) QB M (fuel + 1) listed fr := by
  intro fuel
  induction fuel with
  | zero => intro listed fr _ _ hr hy H; exact H.elim
  | succ fuel ih =>
    intro listed fr hfree hS hr hy H
    refine ⟨fun h => (by rw [h] at hr; cases hr), fun j hj o ho => ?_⟩
    by_cases hji : j = i
    · subst hji; rw [hi] at ho; obtain rfl := Option.some.inj ho; exact .inr ⟨by omega, hdi, A, hy, H⟩
    · obtain ⟨hjun, oj, hoj, hall⟩ := mem_ready.1 hj
      rw [ho] at hoj; obtain rfl := Option.some.inj hoj
      have hnot : ∀ e ∈ o.after, Region.binds md e = true → e.on ≠ i := fun e he hb heq => by
        have h1 := hall e he hb
        have h0 := (mem_ready.1 hr).1
        rw [heq] at h1
        rcases Nat.lt_or_ge i listed.size with h' | h'
        · simp [h'] at h0 h1; rw [h0] at h1; cases h1
        · simp [Array.getElem?_eq_none h'] at h1
      have hjL : j ≠ ops.size - 1 := fun e => by
        subst e
        have h1 := last_all hS hlast hj _ i rfl hiL
        have h0 := (mem_ready.1 hr).1
        rcases Nat.lt_or_ge i listed.size with h' | h'
        · simp [h'] at h0 h1; rw [h0] at h1; cases h1
        · simp [Array.getElem?_eq_none h'] at h1
      rcases H.2 j (ready_mono hj hji) o ho with ⟨h1, _⟩ | ⟨_, hd, A', hy', hr'⟩
      · exact absurd h1 hjL
      obtain ⟨p1, p2, p3⟩ := Oper.apart_spec (hfree j o ho hji hjun hnot)
      have hfree' : ∀ k ok, ops[k]? = some ok → k ≠ i → (listed.setIfInBounds j true).getD k true = false →
          (∀ e ∈ ok.after, Region.binds md e = true → e.on ≠ i) → oi.apart ops ok = true := fun k ok hk hki hun hno => by
        refine hfree k ok hk hki ?_ hno
        by_cases hjk : j = k
        · subst hjk; exact hjun
        · rw [getD_set_ne true hjk] at hun; exact hun
      refine .inr ⟨hjL, hd, A', hy'.other (fun s hs => (get_put_ne fun x hx e => p1 x hx (e ▸ hs)).symm), ?_⟩
      refine ih (listed.setIfInBounds j true) _ hfree' (hS.put hj) (ready_mono hr (Ne.symm hji)) (hy.other fun s hs => get_put_ne fun x hx e => p3 x hx (e ▸ hs)) ?_
      rw [Array.setIfInBounds_comm _ _ hji]
      exact wpAnyB_same hQ fuel _ _ _ (fun s => put_put_get (fun x hx e => p2 x (by rw [← e]) hx |>.elim) s) hr'
/-- quiet operations, and a last one -/
def AQB (P : Program) (T0 : Gh) (N : Fz) (ops : Array Oper) (QB : Oper → Fr → Prop) (M : List Own) : List Oper → Fr → Prop
  | [], _ => False
  | o :: rest, fr => (rest = [] ∧ QB o fr) ∨ (rest ≠ [] ∧ (∀ x, o.dst = some x → x < N.n) ∧ ∃ A, QY P T0 ops o fr M A ∧ AQB P T0 N ops QB M rest (fr.put o.dst A))
theorem wpAnyB_lex {md : Region.Mode} {ops : Array Oper} {QB : Oper → Fr → Prop} (hQ : ∀ o fr fr', (∀ s, Fr.get fr' s = Fr.get fr s) → QB o fr → QB o fr') (hlast : lastB md ops = true) : ∀ (l : List Oper) (k : Nat) (listed : Array Bool) (fr : Fr), k + l.length = ops.size → (∀ j, l[j]? = ops[k + j]?) →
    Region.lexFrom md ops l.length k listed = true → Shut md ops listed → AQB P T0 N ops QB M l fr → wpAnyB P T0 N md ops (ops.size - 1) (fun fr => ∃ o, ops[ops.size - 1]? = some o ∧ QB o fr) M l.length listed fr
  | [], _, _, _, _, _, _, _, h => h.elim
  | o :: l, k, listed, fr, hk, hl, hB, hS, h => by
    have h0 : ops[k]? = some o := by simpa using (hl 0).symm
    simp only [List.length_cons, Region.lexFrom, Bool.and_eq_true] at hB
    obtain ⟨⟨hr, hf⟩, hB'⟩ := hB
    have hr' : k ∈ Region.ready md ops listed := by simpa using hr
    rcases h with ⟨rfl, hq⟩ | ⟨hne, hd, A, hy, hr2⟩
    · have hkL : k = ops.size - 1 := by simp at hk; omega
      have hend : Region.ready md ops (listed.setIfInBounds k true) = [] := by simpa [Region.lexFrom] using hB'
      refine ⟨fun e => (by rw [e] at hr'; cases hr'), fun i hi oi hoi => ?_⟩
      by_cases hik : i = k
      · subst hik
        exact .inl ⟨hkL, rfl, hend, o, by rw [← hkL]; exact h0, hq⟩
      · have := ready_mono hi hik
        rw [hend] at this; cases this
    · have hlen : 0 < l.length := List.length_pos_iff.2 hne
      refine wpAnyB_first (fun fr fr' he ⟨o, h1, h2⟩ => ⟨o, h1, hQ o fr fr' he h2⟩) hlast h0 (by simp only [List.length_cons] at hk; omega) hd l.length listed fr (Region.free_spec h0 hf) hS hr' hy
        (wpAnyB_lex hQ hlast l (k + 1) _ _ (by simp only [List.length_cons] at hk; omega) (fun j => by have := hl (j + 1); simpa [Nat.add_assoc, Nat.add_comm 1 j] using this) hB' (hS.put hr') hr2)
theorem al_last {ops : Array Oper} {o : Oper} (hL : lastB .any ops = true) (h : AL P T0 N false ops Q [o] fr M) : AL P T0 N true ops Q [o] fr M := by
  simp only [AL, Bool.false_eq_true, if_false] at h
  simp only [AL, if_true]
  exact .inl ⟨rfl, hL, h⟩
theorem aq2_split {ops : Array Oper} {QA : Fr → Prop} {QB : Oper → Fr → Prop} : ∀ (l : List Oper) (fr : Fr), AQ2 P T0 N ops QA QB M l fr → AQ P T0 N ops QA M l fr ∨ AQB P T0 N ops QB M l fr
  | [], _, h => .inl h
  | o :: rest, fr, h => by
    rcases h with h | ⟨hd, A, hy, hr⟩
    · exact .inr (.inl h)
    · rcases aq2_split rest _ hr with h | h
      · exact .inl ⟨hd, A, hy, h⟩
      · exact .inr (.inr ⟨fun e => by subst e; exact h.elim, hd, A, hy, h⟩)
theorem aq_close {ops : Array Oper} {QA : Fr → Prop} : ∀ (l : List Oper) (fr : Fr), AQ P T0 N ops QA M l fr → AQ P T0 N ops (fun fr' => ∃ fr1, (∀ s, Fr.get fr' s = Fr.get fr1 s) ∧ QA fr1) M l fr
  | [], fr, h => ⟨fr, fun _ => rfl, h⟩
  | o :: rest, fr, h => let ⟨hd, A, hy, hr⟩ := h; ⟨hd, A, hy, aq_close rest _ hr⟩
theorem aqb_close {ops : Array Oper} {QB : Oper → Fr → Prop} : ∀ (l : List Oper) (fr : Fr), AQB P T0 N ops QB M l fr → AQB P T0 N ops (fun o fr' => ∃ fr1, (∀ s, Fr.get fr' s = Fr.get fr1 s) ∧ QB o fr1) M l fr
  | [], fr, h => h.elim
  | o :: rest, fr, h => h.imp (fun ⟨e, h⟩ => ⟨e, fr, fun _ => rfl, h⟩) (fun ⟨hne, hd, A, hy, hr⟩ => ⟨hne, hd, A, hy, aqb_close rest _ hr⟩)
theorem aqb_some {ops : Array Oper} {QB : Oper → Fr → Prop} : ∀ (l : List Oper) (fr : Fr), AQB P T0 N ops QB M l fr → l ≠ [] ∧ ∃ o fr', QB o fr'
  | [], fr, h => h.elim
  | o :: rest, fr, h => ⟨by simp, by
    rcases h with ⟨_, h⟩ | ⟨_, _, A, _, hr⟩
    · exact ⟨o, fr, h⟩
    · exact (aqb_some rest _ hr).2⟩
theorem aw_region1 {id : Nat} {l : List Oper} (hm : P.follows .mixedOrders = true) (hB : Region.lexB .any l.toArray = true) (h : AL P T0 N true l.toArray Q l fr M) : AW P T0 N (.region id l.toArray true) Q fr M := fun w0 G F a w hc => by
  have h' : AQ2 P T0 N l.toArray (fun fr' => Q .normal fr' M) (fun o fr' => lastB .any l.toArray = true ∧ AE P T0 N l.toArray Q [o] fr' M) M l fr := by simpa [AL] using h
  simp only [Region.lexB, Bool.and_eq_true] at hB
  rcases aq2_split _ _ h' with h1 | h1
  · have h2 := aq_close _ _ h1
    refine wp_region_any hm (wpAny_of_A (QA := fun fr' => ∃ fr1, (∀ s, fr'.get s = fr1.get s) ∧ Q .normal fr1 M) (G0 := G) (F := F) (w0 := w0) ?_ _ _ fr G _ _ (Gh.le.refl _) ⟨hc.st.drew, hc.fr, hc.size, hc.defers⟩ ?_)
    · rintro fr' G' a' w' hl ⟨fr1, he, hq⟩ hc'
      exact ⟨fr1, M, G', hq, hl, hc'.st, fun s A hs e => hc'.fr s A hs (by rw [he s]; exact e), hc'.size, hc'.defers⟩
    · have := wpAnyA_lex (md := .any) (QA := fun fr' => ∃ fr1, (∀ s, fr'.get s = fr1.get s) ∧ Q .normal fr1 M) (fun fr fr' he h => by obtain ⟨fr1, h1, h2⟩ := h; exact ⟨fr1, fun s => (he s).trans (h1 s), h2⟩) l 0 (Array.replicate l.toArray.size false) fr (by simp) (by simpa using hB.2) h2
      simpa using this
  · obtain ⟨hne, _, _, hlast, _⟩ := aqb_some _ _ h1
    have h2 := aqb_close _ _ h1
    have hpos : l.toArray.size - 1 < l.toArray.size := by
      have := List.length_pos_iff.2 hne
      simp; omega
    have h3 := wpAnyB_lex (md := .any) (fun o fr fr' he h => by obtain ⟨fr1, h1, h2⟩ := h; exact ⟨fr1, fun s => (he s).trans (h1 s), h2⟩) hlast l 0 (Array.replicate l.toArray.size false) fr (by simp) (by simp) (by simpa using hB.2) (shut_none _) h2
    refine wp_region_any hm (wpAny_of_B (G0 := G) (F := F) (w0 := w0) (Array.getElem?_eq_getElem hpos) ?_ _ _ fr G _ _ (Gh.le.refl _) ⟨hc.st.drew, hc.fr, hc.size, hc.defers⟩ h3)
    rintro fr' G' a' w' hl ⟨o, ho, fr1, he, _, hq⟩ hc'
    have hoe : o = l.toArray[l.toArray.size - 1] := Option.some.inj (ho.symm.trans (Array.getElem?_eq_getElem hpos))
    subst hoe
    exact wpList_mono (fun _ _ _ q => q.mono (fun _ _ _ h => h) hl) _ _ _ (hq w0 G' F a' w' ⟨hc'.st, fun s A hs e => hc'.fr s A hs (by rw [he s]; exact e), hc'.size, hc'.defers⟩)

/-! ### Functions -/
/-- whatever reads as A reads as A' -/
def Sub (A A' : AV) : Prop := ∀ G u, Rep G A u → Rep G A' u
theorem Sub.refl (A : AV) : Sub A A := fun _ _ h => h
theorem Sub.eq {A A' : AV} (h : A = A') : Sub A A' := fun _ _ r => h ▸ r
theorem Sub.trans {A B C : AV} (h : Sub A B) (k : Sub B C) : Sub A C := fun G u r => k G u (h G u r)
def SubL : List AV → List AV → Prop
  | [], [] => True
  | A :: l, B :: r => Sub A B ∧ SubL l r
  | _, _ => False
theorem SubL.rep {G : Gh} : ∀ {l r us}, SubL l r → AllRep G l us → AllRep G r us
  | [], [], [], _, _ => trivial
  | _ :: _, _ :: _, _ :: _, h, k => ⟨h.1 _ _ k.1, SubL.rep h.2 k.2⟩
  | [], _ :: _, _, h, _ => h.elim
  | _ :: _, [], _, h, _ => h.elim
theorem subl0 : SubL [] [] := trivial
theorem subl1 {A A' : AV} {l l' : List AV} (h : Sub A A') (k : SubL l l') : SubL (A :: l) (A' :: l') := ⟨h, k⟩
theorem sub_tup {l r : List AV} (h : SubL l r) : Sub (tupA l) (tupA r) := fun _ _ k => by
  obtain ⟨us, rfl, q⟩ := k.tup
  exact .of ⟨us, rfl, h.rep q⟩
theorem sub_agg {l r : List AV} (h : SubL l r) : Sub (aggA l) (aggA r) := fun _ _ k => by
  obtain ⟨us, rfl, q⟩ := k.agg
  exact .of ⟨us, rfl, h.rep q⟩
theorem sub_any {A : AV} : Sub A anyA := fun _ _ _ => Rep.any _ _
def Callable (P : Program) (f : FuncId) : Prop := ∃ fn, P.funcs[f]? = some fn ∧ (fn.name == "runtime.NumGoroutine") = false ∧ fn.body.isNone = false
/-- a contract -/
structure AF (P : Program) (T0 : Gh) (f : FuncId) (As : List AV) (M : List Own) (K : AV → List Own → Prop) (KP : List PanicEntry → List Own → Prop := fun _ _ => False) : Prop where
  able : Callable P f
  calls : ∀ w0 G F w (vs : List Value), St T0 w0 G (M ++ F) w → AllRep G As vs → Calls P f vs.toArray w fun e w' =>
    (∃ u A M' G', e = .returned u ∧ K A M' ∧ Rep G' A u ∧ Gh.le G G' ∧ St T0 w0 G' (M' ++ F) w') ∨ (∃ c M' G', e = .panicked c ∧ KP c M' ∧ Gh.le G G' ∧ St T0 w0 G' (M' ++ F) w')
/-- a contract of a function that owns nothing, and yields this -/
abbrev AP (P : Program) (T0 : Gh) (f : FuncId) (As : List AV) (A : AV) : Prop := AF P T0 f As [] (fun A' M' => Sub A' A ∧ M' = [])
theorem AF.mono {f : FuncId} {As : List AV} {K K' : AV → List Own → Prop} {KP KP' : List PanicEntry → List Own → Prop} (h : AF P T0 f As M K KP) (hk : ∀ A M, K A M → K' A M) (hp : ∀ c M, KP c M → KP' c M) : AF P T0 f As M K' KP' :=
  ⟨h.able, fun w0 G F w vs hs hr => (h.calls w0 G F w vs hs hr).mono fun e w' q => q.imp (fun ⟨u, A, M', G', e1, e2, r⟩ => ⟨u, A, M', G', e1, hk _ _ e2, r⟩) (fun ⟨c, M', G', e1, e2, r⟩ => ⟨c, M', G', e1, hp _ _ e2, r⟩)⟩

def argsFr : Nat → List AV → Fr
  | _, [] => []
  | n, A :: l => (n, A) :: argsFr (n + 1) l
theorem argsFr_rel {G : Gh} : ∀ (l : List AV) (us : List Value) (n : Nat) (pre post : List Value), pre.length = n → AllRep G l us → frRel G (argsFr n l) (pre ++ us ++ post).toArray
  | [], [], _, _, _, _, _ => fun s A _ e => by simp [argsFr, Fr.get] at e
  | A :: l, u :: us, n, pre, post, hn, h => fun s B hs e => by
    by_cases h1 : s = n
    · subst h1
      simp only [argsFr, get_cons_same] at e
      obtain rfl := Option.some.inj e
      refine ⟨u, ?_, h.1⟩
      subst hn
      simp
    · simp only [argsFr, get_cons_ne h1] at e
      have := argsFr_rel l us (n + 1) (pre ++ [u]) post (by simp [hn]) h.2 s B hs e
      simpa using this
/-- what is handed back -/
def ResA (P : Program) (T0 : Gh) (fn : Func) (fr : Fr) (M : List Own) (A : AV) : Prop := ∀ w0 G F (tmps : Array Value) w, St T0 w0 G (M ++ F) w → frRel G fr tmps → ∃ u, (results fn tmps).run P w = .ok u w ∧ Rep G A u
theorem res0 {fn : Func} (h : fn.results = #[]) : ResA P T0 fn fr M (vA (.tuple #[])) := fun _ G _ tmps w _ _ => ⟨_, results_none h tmps P w, Rep.va _ _⟩
theorem slot_get {G : Gh} {tmps : Array Value} (h : frRel G fr tmps) {t : Nat} {A : AV} (e : fr.get t = some A) : Rep G A (tmps.getD t undef) := by
  obtain ⟨u, h1, h2⟩ := h t A trivial e
  simpa [h1] using h2
theorem res1 {fn : Func} {t : Nat} {A : AV} (h : fn.results = #[.tmp t]) (e : fr.get t = some A) : ResA P T0 fn fr M A := fun _ G _ tmps w _ hr => ⟨_, results_tmp h tmps P w, slot_get hr e⟩
theorem res2 {fn : Func} {t t' : Nat} {A A' : AV} (h : fn.results = #[.tmp t, .tmp t']) (e : fr.get t = some A) (e' : fr.get t' = some A') : ResA P T0 fn fr M (tupA [A, A']) := fun _ G _ tmps w _ hr =>
  ⟨_, results_tmp2 h tmps P w, .of ⟨[_, _], rfl, slot_get hr e, slot_get hr e', trivial⟩⟩
theorem res3 {fn : Func} {t t' t'' : Nat} {A A' A'' : AV} (h : fn.results = #[.tmp t, .tmp t', .tmp t'']) (e : fr.get t = some A) (e' : fr.get t' = some A') (e'' : fr.get t'' = some A'') : ResA P T0 fn fr M (tupA [A, A', A'']) := fun _ G _ tmps w _ hr =>
  ⟨.tuple #[_, _, _], by simp [results, h], .of ⟨[_, _, _], rfl, slot_get hr e, slot_get hr e', slot_get hr e'', trivial⟩⟩
/-- what a function's body must come to -/
def retQ (P : Program) (T0 : Gh) (fn : Func) (K : AV → List Own → Prop) (KP : List PanicEntry → List Own → Prop) : Post
  | .normal, fr, M => ∃ A M', ResA P T0 fn fr M A ∧ List.Sublist M' M ∧ K A M'
  | .ret, fr, M => ∃ A M', ResA P T0 fn fr M A ∧ List.Sublist M' M ∧ K A M'
  | .panic c, _, M => KP c M
  | _, _, _ => False
theorem af_intro {n : Nat} {f : FuncId} {fn : Func} {c : Code} {As : List AV} {K : AV → List Own → Prop} {KP : List PanicEntry → List Own → Prop} (hf : P.funcs[f]? = some fn) (hb : fn.body = some c) (hname : (fn.name == "runtime.NumGoroutine") = false)
    (hN : fn.ntmps = n) (hA : Nat.ble As.length n = true) (h : AW P T0 ⟨n, []⟩ c (retQ P T0 fn K KP) (argsFr 0 As) M) : AF P T0 f As M K KP := by
  refine ⟨⟨fn, hf, hname, by simp [hb]⟩, fun w0 G F w vs hs hr => calls_of_wp hf hb ?_⟩
  have hlen := hr.len
  have hA' : As.length ≤ n := by simpa using hA
  have hrel := argsFr_rel As vs 0 [] (List.replicate (fn.ntmps - vs.length) undef) rfl hr
  refine wp_mono (h w0 G F _ w ⟨hs, ?_, ?_, rfl⟩) ?_
  · have e : (vs.toArray ++ Array.replicate (fn.ntmps - vs.toArray.size) undef) = ([] ++ vs ++ List.replicate (fn.ntmps - vs.length) undef).toArray := by simp
    simp only [e]; exact hrel
  · simp; omega
  · rintro e a w' ⟨fr', M', G', q, hl, hc⟩
    cases e with
    | normal =>
      obtain ⟨A, M2, h1, hsub, h2⟩ := q
      obtain ⟨u, h3, h4⟩ := h1 w0 G' F a.tmps w' hc.st hc.fr
      exact ⟨hc.defers, u, h3, .inl ⟨u, A, M2, G', rfl, h2, h4, hl, hc.st.sub (hsub.append (List.Sublist.refl F))⟩⟩
    | ret =>
      obtain ⟨A, M2, h1, hsub, h2⟩ := q
      obtain ⟨u, h3, h4⟩ := h1 w0 G' F a.tmps w' hc.st hc.fr
      exact ⟨hc.defers, u, h3, .inl ⟨u, A, M2, G', rfl, h2, h4, hl, hc.st.sub (hsub.append (List.Sublist.refl F))⟩⟩
    | panic c => exact ⟨hc.defers, .inr ⟨c, M', G', rfl, q, hl, hc.st⟩⟩
    | exit _ => exact q.elim
    | goto _ => exact q.elim
    | outgrown => exact q.elim
end
end Go.Proofs.YtplabpjkkcillaaDoor
