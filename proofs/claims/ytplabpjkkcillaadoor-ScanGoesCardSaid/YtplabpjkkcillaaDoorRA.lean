/- Layer 6 (scan), plainly: what is put is found again; bytes may be cut anywhere. No condition. -/
import Derived.Test.YtplabpjkkcillaaDoorS9
namespace Go.Proofs.YtplabpjkkcillaaDoor
set_option linter.unusedSimpArgs false
set_option linter.unusedVariables false
set_option linter.unusedSectionVars false
set_option maxHeartbeats 4000000
open Go Go.RowKit
set_option maxRecDepth 100000
theorem more_take {c : Cmd} {l : List UInt8} (h : Shape c l) {k : Nat} (h1 : 1 ≤ k) (h2 : k < l.length) : MoreC (l.take k) := by
  have hlen : (l.take k).length = k := by rw [List.length_take]; omega
  have h0 : l.take k ≠ [] := by intro e; rw [e] at hlen; simp only [List.length_nil] at hlen; omega
  by_cases hc : c.1 = 1
  · cases h with
    | text n hs => exact .inl ⟨h0, n, isG_shown hs, by rw [hlen]; exact h2, by rw [hlen]⟩
    | go a b => exact absurd hc (by simp only; omega)
    | one k hk => exact absurd hc (by simp only; omega)
    | move k a hk => exact absurd hc (by simp only; omega)
    | form k hk => exact absurd hc (by simp only; omega)
  · exact .inr ⟨h0, c, l, h, hc, by rw [hlen]; exact h2, by rw [hlen]⟩
theorem take_front {a b l : List UInt8} {n : Nat} (e : a ++ b = l.take n) (hn : a.length ≤ n) : a = l.take a.length := by
  have := congrArg (List.take a.length) e
  rw [List.take_left, List.take_take, Nat.min_eq_left hn] at this; exact this
theorem more_pre {a b : List UInt8} (h : MoreC (a ++ b)) (h0 : a ≠ []) : MoreC a := by
  have hl : (a ++ b).length = a.length + b.length := List.length_append
  rcases h with ⟨_, r, hr, h2, e⟩ | ⟨_, c, l, hs, hc, h2, e⟩
  · exact .inl ⟨h0, r, hr, by omega, take_front e (by omega)⟩
  · exact .inr ⟨h0, c, l, hs, hc, by omega, take_front e (by omega)⟩
theorem nextM_nil : nextM [] = ((0, 0, 0, 0), [], 6) := rfl
theorem next_ne {s : List UInt8} {e : Int} (h : (nextM s).2.2 = e) (he : e ≠ 6) : s ≠ [] := by rintro rfl; exact he h.symm
theorem nextM_app {a : List UInt8} (b : List UInt8) (h : (nextM a).2.2 = 0) : nextM (a ++ b) = ((nextM a).1, (nextM a).2.1 ++ b, 0) := by
  obtain ⟨l, h1, h2⟩ := next_ok h
  have h0 := next_ne h (by decide)
  have hne : a ++ b ≠ [] := by simp [h0]
  have e : a ++ b = l ++ ((nextM a).2.1 ++ b) := by rw [← List.append_assoc, ← h2]
  have hc := cmd_full h1 ((nextM a).2.1 ++ b)
  rw [← e] at hc
  rw [nextM, if_neg hne, hc]
theorem nextM_form {a : List UInt8} (b : List UInt8) (h : (nextM a).2.2 = 2) : (nextM (a ++ b)).2.2 = 2 := by
  have h0 := next_ne h (by decide)
  have hpos : 1 ≤ a.length := by cases a with | nil => exact absurd rfl h0 | cons => simp
  have hne : a ++ b ≠ [] := by simp [h0]
  have hc : (cmdM a).1 = 2 := by rw [nextM, if_neg h0] at h; exact h
  rcases cmd_sound (a ++ b) hne with ⟨c, l, t, k1, k2, k3⟩ | ⟨k1, k2⟩ | k1
  · exfalso
    rcases Nat.lt_or_ge a.length l.length with hl | hl
    · have e : a = l.take a.length := by
        have := congrArg (List.take a.length) k2
        rw [List.take_left, List.take_append_of_le_length (by omega)] at this; exact this
      have hm : MoreC a := by rw [e]; exact more_take k1 hpos hl
      rw [cmd_more hm] at hc; cases hc
    · have e : l = a.take l.length := by
        have := congrArg (List.take l.length) k2
        rw [List.take_left, List.take_append_of_le_length hl] at this; exact this.symm
      have e2 : a = l ++ a.drop l.length := by
        conv => lhs; rw [← List.take_append_drop l.length a]
        rw [← e]
      rw [e2, cmd_full k1] at hc; cases hc
  · exfalso; rw [cmd_more (more_pre k2 h0)] at hc; cases hc
  · rw [nextM, if_neg hne, k1]; rfl
/-- bytes are cut: what is found in the front stands ahead of what is found from its rest on -/
theorem allS_app (a b : List UInt8) : ((allS a).2.2 = 0 → allS (a ++ b) = allF (allS a).1 (allS ((allS a).2.1 ++ b))) ∧ ((allS a).2.2 ≠ 0 → allS (a ++ b) = ([], [], 2)) := by
  generalize hn : a.length = n
  induction n using Nat.strongRecOn generalizing a with
  | ind n ih =>
    by_cases h : (nextM a).2.2 = 0
    · have hl := next_len h
      have hb := nextM_app b h
      obtain ⟨i1, i2⟩ := ih _ (by omega) (nextM a).2.1 rfl
      have e1 := allS_ok h
      have e2 : allS (a ++ b) = allF [(nextM a).1] (allS ((nextM a).2.1 ++ b)) := by
        have := allS_ok (s := a ++ b) (by rw [hb])
        rw [hb] at this; exact this
      rcases allS_err (nextM a).2.1 with k | k
      · have e3 : allS a = ([(nextM a).1] ++ (allS (nextM a).2.1).1, (allS (nextM a).2.1).2) := by rw [e1, allF, if_neg (by rw [k]; decide)]
        refine ⟨fun _ => ?_, fun hne => absurd (by rw [e3]; exact k) hne⟩
        rw [e2, i1 k, allF_app, e3]
      · have e3 : allS a = ([], [], 2) := by rw [e1, k]; rfl
        refine ⟨fun h0 => (by rw [e3] at h0; cases h0), fun _ => ?_⟩
        rw [e2, i2 (by rw [k]; decide)]; rfl
    · by_cases h2 : (nextM a).2.2 = 2
      · have e1 := allS_form h2
        refine ⟨fun h0 => (by rw [e1] at h0; cases h0), fun _ => ?_⟩
        exact allS_form (nextM_form b h2)
      · have e1 := allS_end h h2
        refine ⟨fun _ => ?_, fun hne => absurd (by rw [e1]) hne⟩
        rw [e1]; exact (allF_nil _).symm
theorem more_len {s : List UInt8} (h : MoreC s) : s.length < 8 := by
  rcases h with ⟨_, r, _, h2, _⟩ | ⟨_, c, l, hs, _, h2, _⟩
  · have := encC_len r; omega
  · obtain ⟨h1, h3⟩ := shape_is hs
    have := bytesB_len h1
    rw [h3] at this; omega
/-- bytes are the bytes of what is found in them, and a beginning of one more -/
theorem allS_sound (s : List UInt8) (h : (allS s).2.2 = 0) : s.length = costM (allS s).1 + (allS s).2.1.length ∧ (∀ c ∈ (allS s).1, isCmd c = true) ∧ s = ((allS s).1.flatMap bytesB) ++ (allS s).2.1 ∧ (((allS s).2.1 = [] ∧ (nextM (allS s).2.1).2.2 = 6) ∨ (MoreC (allS s).2.1 ∧ (nextM (allS s).2.1).2.2 = 3)) := by
  generalize hn : s.length = n
  induction n using Nat.strongRecOn generalizing s with
  | ind n ih =>
    by_cases h1 : (nextM s).2.2 = 0
    · have hl := next_len h1
      have e1 := allS_ok h1
      rcases allS_err (nextM s).2.1 with k | k
      · have e3 : allS s = ((nextM s).1 :: (allS (nextM s).2.1).1, (allS (nextM s).2.1).2) := by rw [e1, allF, if_neg (by rw [k]; decide)]; rfl
        obtain ⟨j1, j2, j3, j4⟩ := ih _ (by omega) (nextM s).2.1 k rfl
        obtain ⟨l, s1, s2⟩ := next_ok h1
        obtain ⟨s3, s4⟩ := shape_is s1
        rw [e3]
        refine ⟨?_, ?_, ?_, j4⟩
        · have e4 : lenC (nextM s).1 = l.length := by rw [lenC, putR', if_pos s3, s4]
          have e5 : s.length = l.length + (nextM s).2.1.length := by rw [← List.length_append, ← s2]
          simp only [costM, List.map_cons, List.sum_cons] at j1 ⊢; omega
        · intro c hc
          rcases List.mem_cons.1 hc with rfl | hc
          · exact s3
          · exact j2 c hc
        · rw [List.flatMap_cons, s4, List.append_assoc, ← j3]; exact s2
      · rw [e1, k] at h; cases h
    · by_cases h2 : (nextM s).2.2 = 2
      · rw [allS_form h2] at h; cases h
      · have e1 := allS_end h1 h2
        rw [e1]
        refine ⟨by simp [costM]; exact hn.symm, fun c hc => (by cases hc), by simp, ?_⟩
        by_cases h0 : s = []
        · subst h0; exact .inl ⟨rfl, rfl⟩
        · right
          rcases cmd_sound s h0 with ⟨c, l, t, k1, k2, k3⟩ | ⟨k1, k2⟩ | k1
          · exact absurd (by rw [nextM, if_neg h0, k3]) h1
          · exact ⟨k2, by rw [nextM, if_neg h0, k1]; rfl⟩
          · exact absurd (by rw [nextM, if_neg h0, k1]; rfl) h2
/-- commands that were put are found again -/
theorem allS_put : ∀ (l : List Cmd) (s : List UInt8), (∀ c ∈ l, isCmd c = true) → allS (l.flatMap bytesB ++ s) = allF l (allS s)
  | [], s, _ => (allF_nil s).symm
  | c :: l, s, h => by
    have hs := shape_of (h c (by simp))
    have hp := shape_pos hs
    have e : (c :: l).flatMap bytesB ++ s = bytesB c ++ (l.flatMap bytesB ++ s) := by rw [List.flatMap_cons, List.append_assoc]
    have hne : bytesB c ++ (l.flatMap bytesB ++ s) ≠ [] := by
      intro e; have := congrArg List.length e; simp only [List.length_append, List.length_nil] at this; omega
    have hn : nextM (bytesB c ++ (l.flatMap bytesB ++ s)) = (c, l.flatMap bytesB ++ s, 0) := by rw [nextM, if_neg hne, cmd_full hs]
    have := allS_ok (s := bytesB c ++ (l.flatMap bytesB ++ s)) (by rw [hn])
    rw [hn] at this
    rw [e, this, allS_put l s (fun d hd => h d (by simp [hd])), allF_app]; rfl
end Go.Proofs.YtplabpjkkcillaaDoor
