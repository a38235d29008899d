/- Layer 28 (motion), plainly: of the commands that lead to a place, the one that is told has the fewest bytes. No condition. -/
import Derived.Test.YtgfmjmfphmjdkaaGreatDoorQ3B1
import Derived.Test.YtgfmjmfphmjdkaaGreatDoorQ3O0
namespace Go.Proofs.YtgfmjmfphmjdkaaGreatDoor
set_option linter.unusedSimpArgs false
set_option linter.unusedVariables false
set_option linter.unusedSectionVars false
set_option maxHeartbeats 4000000
open Go Go.RowKit
set_option maxRecDepth 100000
/-- fewer bytes, or as many and a lesser kind, or number -/
def lexle (c d : Cmd) : Prop := lenC c < lenC d ∨ (lenC c = lenC d ∧ (c.1 < d.1 ∨ (c.1 = d.1 ∧ c.2.1 ≤ d.2.1)))
def kle (c d : Cmd) : Prop := c.1 < d.1 ∨ (c.1 = d.1 ∧ c.2.1 ≤ d.2.1)
theorem lexle_refl (c : Cmd) : lexle c c := .inr ⟨rfl, .inr ⟨rfl, Int.le_refl _⟩⟩
theorem lexle_trans {a b c : Cmd} (h1 : lexle a b) (h2 : lexle b c) : lexle a c := by
  unfold lexle at *; omega
theorem lexle_of {a b : Cmd} (h : lenC a ≤ lenC b) (k : kle a b) : lexle a b := by
  unfold lexle kle at *; omega
def bestM (l : List Cmd) (b : Cmd) : Cmd := l.foldl (fun b c => if lenC c < lenC b then c else b) b
theorem bestM_cons (c : Cmd) (l : List Cmd) (b : Cmd) : bestM (c :: l) b = bestM l (if lenC c < lenC b then c else b) := rfl
theorem best_ok : ∀ (l : List Cmd) (b : Cmd), (∀ d ∈ l, kle b d) → l.Pairwise kle → bestM l b ∈ b :: l ∧ ∀ d ∈ b :: l, lexle (bestM l b) d
  | [], b, _, _ => ⟨List.mem_cons_self, fun d hd => by simp at hd; subst hd; exact lexle_refl _⟩
  | c :: l, b, hb, hp => by
    rw [bestM_cons]
    have hc := List.pairwise_cons.1 hp
    by_cases e : lenC c < lenC b
    · rw [if_pos e]
      obtain ⟨i1, i2⟩ := best_ok l c hc.1 hc.2
      refine ⟨List.mem_cons_of_mem _ i1, fun d hd => ?_⟩
      rcases List.mem_cons.1 hd with rfl | hd
      · exact lexle_trans (i2 c List.mem_cons_self) (.inl e)
      · exact i2 d hd
    · rw [if_neg e]
      obtain ⟨i1, i2⟩ := best_ok l b (fun d hd => hb d (List.mem_cons_of_mem _ hd)) hc.2
      refine ⟨?_, fun d hd => ?_⟩
      · rcases List.mem_cons.1 i1 with i1 | i1
        · rw [i1]; exact List.mem_cons_self
        · exact List.mem_cons_of_mem _ (List.mem_cons_of_mem _ i1)
      · rcases List.mem_cons.1 hd with rfl | hd
        · exact i2 _ List.mem_cons_self
        · rcases List.mem_cons.1 hd with rfl | hd
          · exact lexle_trans (i2 b List.mem_cons_self) (lexle_of (by omega) (hb _ List.mem_cons_self))
          · exact i2 d (List.mem_cons_of_mem _ hd)
/-- what the program tells -/
noncomputable def nextMo (b : Bel) (X Y : Int) : Cmd × Int :=
  if ¬ (okBl b = true ∧ 0 ≤ X ∧ X < b.1 ∧ 0 ≤ Y ∧ Y < b.2.1) then ((0, 0, 0, 0), 1)
  else if b.2.2.2.2.2.2 = false then (goC X Y, 0)
  else if b.2.2.2.1 = X ∧ b.2.2.2.2.1 = Y ∧ b.2.2.2.2.2.1 = false then ((0, 0, 0, 0), 7)
  else (bestM (movesM b.2.1 b.2.2.2.1 b.2.2.2.2.1 X Y) (goC X Y), 0)
/-- the commands that the reference looks at -/
def upsL (k : Int) : List Cmd := (List.range 80).map fun (n : Nat) => (k, ((n : Int) + 1), 0, 0)
def allL (f : Bool) (X Y : Int) : List Cmd := goC X Y :: (upsL 3 ++ upsL 4 ++ upsL 5 ++ upsL 6 ++ [(9, 0, 0, 0)] ++ (if f then [(10, 0, 0, 0)] else []) ++ [(11, 0, 0, 0)])
/-- does a command lead there? -/
noncomputable def leads (w h x y : Int) (b : Bool) (X Y : Int) (c : Cmd) : Bool := decide (curK w h x y b c = (X, Y, false))
noncomputable def refStep (p : Cmd → Bool) (s : Cmd × Nat) (c : Cmd) : Cmd × Nat := if lenC c < s.2 ∧ p c = true then (c, lenC c) else s
theorem ref_best (p : Cmd → Bool) : ∀ (l : List Cmd) (b : Cmd), l.foldl (refStep p) (b, lenC b) = (bestM (l.filter p) b, lenC (bestM (l.filter p) b))
  | [], b => rfl
  | c :: l, b => by
    rw [List.foldl_cons, List.filter_cons]
    by_cases hp : p c = true
    · rw [if_pos hp, bestM_cons]
      by_cases e : lenC c < lenC b
      · rw [show refStep p (b, lenC b) c = (c, lenC c) from if_pos ⟨e, hp⟩, if_pos e]; exact ref_best p l c
      · rw [show refStep p (b, lenC b) c = (b, lenC b) from if_neg (fun h => e h.1), if_neg e]; exact ref_best p l b
    · rw [if_neg hp, show refStep p (b, lenC b) c = (b, lenC b) from if_neg (fun h => hp h.2)]; exact ref_best p l b
/-- how many bytes a move has -/
theorem lenC_up {k a : Int} (hk : 3 ≤ k ∧ k ≤ 6) (ha : 1 ≤ a ∧ a ≤ 80) : lenC (k, a, 0, 0) = if a = 1 then 3 else if a < 10 then 4 else 5 := by
  have hc : isCmd (k, a, 0, 0) = true := by
    simp only [isCmd]
    rw [if_neg (by omega), if_neg (by omega), if_pos (by omega)]; simp; omega
  unfold lenC putR'
  rw [if_pos hc]
  simp only [bytesB]
  rw [if_neg (by omega), if_neg (by omega), if_pos (by omega)]
  by_cases e : a = 1
  · simp [e]
  · rw [if_neg e, if_neg e, digB]
    by_cases q : a < 10
    · rw [if_pos (by omega), if_pos q]; rfl
    · rw [if_neg (by omega), if_neg q]; rfl
/-- where the moves lead -/
theorem cur_go (w h x y : Int) (b : Bool) (A B : Int) : curK w h x y b (2, A, B, 0) = (inM B (w - 1), inM A (h - 1), false) := rfl
theorem cur_up (w h x y : Int) (b : Bool) (a : Int) : curK w h x y b (3, a, 0, 0) = (inM x (w - 1), inM (y - a) (h - 1), false) := rfl
theorem cur_down (w h x y : Int) (b : Bool) (a : Int) : curK w h x y b (4, a, 0, 0) = (inM x (w - 1), inM (y + a) (h - 1), false) := rfl
theorem cur_right (w h x y : Int) (b : Bool) (a : Int) : curK w h x y b (5, a, 0, 0) = (inM (x + a) (w - 1), inM y (h - 1), false) := rfl
theorem cur_left (w h x y : Int) (b : Bool) (a : Int) : curK w h x y b (6, a, 0, 0) = (inM (x - a) (w - 1), inM y (h - 1), false) := rfl
theorem cur_home (w h x y : Int) (b : Bool) : curK w h x y b (9, 0, 0, 0) = (inM 0 (w - 1), inM y (h - 1), false) := rfl
theorem cur_feed (w h x y : Int) (b : Bool) : curK w h x y b (10, 0, 0, 0) = (x, (downL w h [] y).2, false) := rfl
theorem cur_back (w h x y : Int) (b : Bool) : curK w h x y b (11, 0, 0, 0) = (inM (x - 1) (w - 1), inM y (h - 1), false) := rfl
theorem leads_iff {w h x y : Int} {b : Bool} {X Y : Int} {c : Cmd} : leads w h x y b X Y c = true ↔ (curK w h x y b c).1 = X ∧ (curK w h x y b c).2.1 = Y ∧ (curK w h x y b c).2.2 = false := by
  rw [leads, decide_eq_true_eq, Prod.ext_iff, Prod.ext_iff]
section
variable {w h x y X Y : Int} {b : Bool}
/-- a right and sure cursor that is not there -/
structure Away (w h x y X Y : Int) (b : Bool) : Prop where
  hs : 2 ≤ w ∧ w ≤ 80 ∧ 1 ≤ h ∧ h ≤ 24
  hx : 0 ≤ x ∧ x < w
  hy : 0 ≤ y ∧ y < h
  hX : 0 ≤ X ∧ X < w
  hY : 0 ≤ Y ∧ Y < h
  hb : b = true → x = w - 1
  hno : ¬ (x = X ∧ y = Y ∧ b = false)
theorem Away.wrap (H : Away w h x y X Y b) (h1 : x = X) (h2 : y = Y) : x = w - 1 := by
  cases e : b with
  | true => exact H.hb e
  | false => exact absurd ⟨h1, h2, e⟩ H.hno
/-- a move that leads there has no fewer bytes than one of the program's that does -/
theorem Away.least (H : Away w h x y X Y b) {k a : Int} (hk : k = 3 ∨ k = 4 ∨ k = 5 ∨ k = 6) (ha : 1 ≤ a ∧ a ≤ 80) (hl : leads w h x y b X Y (k, a, 0, 0) = true) : ∃ d ∈ movesM h x y X Y, lexle d (k, a, 0, 0) := by
  obtain ⟨⟨s1, s2, s3, s4⟩, hx, hy, hX, hY, hb, hno⟩ := H
  have hw : x = X → y = Y → x = w - 1 := fun h1 h2 => by
    cases e : b with
    | true => exact hb e
    | false => exact absurd ⟨h1, h2, e⟩ hno
  obtain ⟨l1, l2, _⟩ := leads_iff.1 hl
  have key : ∀ m : Int, 1 ≤ m → m ≤ a → (true, ((k, m, 0, 0) : Cmd)) ∈ moL h x y X Y → ∃ d ∈ movesM h x y X Y, lexle d (k, a, 0, 0) := fun m h1 h2 h3 => by
    refine ⟨(k, m, 0, 0), List.mem_map.2 ⟨_, List.mem_filter.2 ⟨h3, rfl⟩, rfl⟩, lexle_of ?_ (.inr ⟨rfl, h2⟩)⟩
    have e1 := lenC_up (k := k) (a := m) (by omega) (by omega)
    have e2 := lenC_up (k := k) (a := a) (by omega) ha
    rw [e1, e2]
    clear e1 e2
    repeat' split
    all_goals omega
  rcases hk with rfl | rfl | rfl | rfl
  · rw [cur_up] at l1 l2
    simp only [inM] at l1 l2
    have e1 : X = x := by omega
    refine key (max 1 (-(Y - y))) (by omega) (by omega) ?_
    have : (true, ((3, max 1 (-(Y - y)), 0, 0) : Cmd)) = (decide (X - x = 0) && (decide (Y - y < 0) || ((decide (X - x = 0) && decide (Y - y = 0)) && decide (Y = 0))), ((3, max 1 (-(Y - y)), 0, 0) : Cmd)) := by
      congr 1; simp; omega
    rw [this]; simp [moL]
  · rw [cur_down] at l1 l2
    simp only [inM] at l1 l2
    have e1 : X = x := by omega
    refine key (max 1 (Y - y)) (by omega) (by omega) ?_
    have : (true, ((4, max 1 (Y - y), 0, 0) : Cmd)) = (decide (X - x = 0) && (decide (Y - y > 0) || ((decide (X - x = 0) && decide (Y - y = 0)) && decide (Y = h - 1))), ((4, max 1 (Y - y), 0, 0) : Cmd)) := by
      congr 1; simp; omega
    rw [this]; simp [moL]
  · rw [cur_right] at l1 l2
    simp only [inM] at l1 l2
    have e1 : Y = y := by omega
    refine key (max 1 (X - x)) (by omega) (by omega) ?_
    have : (true, ((5, max 1 (X - x), 0, 0) : Cmd)) = (decide (Y - y = 0) && (decide (X - x > 0) || (decide (X - x = 0) && decide (Y - y = 0))), ((5, max 1 (X - x), 0, 0) : Cmd)) := by
      congr 1; simp; omega
    rw [this]; simp [moL]
  · rw [cur_left] at l1 l2
    simp only [inM] at l1 l2
    have e1 : Y = y := by omega
    have e2 : X - x < 0 := by
      have := hw
      omega
    refine key (max 1 (-(X - x))) (by omega) (by omega) ?_
    have : (true, ((6, max 1 (-(X - x)), 0, 0) : Cmd)) = (decide (Y - y = 0) && decide (X - x < 0), ((6, max 1 (-(X - x)), 0, 0) : Cmd)) := by
      congr 1; simp; omega
    rw [this]; simp [moL]
theorem Away.home (H : Away w h x y X Y b) (hl : leads w h x y b X Y (9, 0, 0, 0) = true) : ((9, 0, 0, 0) : Cmd) ∈ movesM h x y X Y := by
  obtain ⟨⟨s1, s2, s3, s4⟩, hx, hy, hX, hY, hb, hno⟩ := H
  obtain ⟨l1, l2, _⟩ := leads_iff.1 hl
  rw [cur_home] at l1 l2
  simp only [inM] at l1 l2
  refine List.mem_map.2 ⟨(true, (9, 0, 0, 0)), List.mem_filter.2 ⟨?_, rfl⟩, rfl⟩
  have : (true, ((9, 0, 0, 0) : Cmd)) = (decide (Y - y = 0) && decide (X = 0), ((9, 0, 0, 0) : Cmd)) := by
    congr 1; simp; omega
  rw [this]; simp [moL]
theorem Away.feed (H : Away w h x y X Y b) (hf : y < h - 1) (hl : leads w h x y b X Y (10, 0, 0, 0) = true) : ((10, 0, 0, 0) : Cmd) ∈ movesM h x y X Y := by
  obtain ⟨⟨s1, s2, s3, s4⟩, hx, hy, hX, hY, hb, hno⟩ := H
  obtain ⟨l1, l2, _⟩ := leads_iff.1 hl
  rw [cur_feed] at l1 l2
  simp only [downL] at l1 l2
  rw [if_neg (by omega)] at l2
  simp only at l2
  refine List.mem_map.2 ⟨(true, (10, 0, 0, 0)), List.mem_filter.2 ⟨?_, rfl⟩, rfl⟩
  have : (true, ((10, 0, 0, 0) : Cmd)) = (decide (X - x = 0) && decide (Y - y = 1), ((10, 0, 0, 0) : Cmd)) := by
    congr 1; simp; omega
  rw [this]; simp [moL]
theorem Away.back (H : Away w h x y X Y b) (hl : leads w h x y b X Y (11, 0, 0, 0) = true) : ((11, 0, 0, 0) : Cmd) ∈ movesM h x y X Y := by
  have hw := H.wrap
  obtain ⟨⟨s1, s2, s3, s4⟩, hx, hy, hX, hY, hb, hno⟩ := H
  obtain ⟨l1, l2, _⟩ := leads_iff.1 hl
  rw [cur_back] at l1 l2
  simp only [inM] at l1 l2
  refine List.mem_map.2 ⟨(true, (11, 0, 0, 0)), List.mem_filter.2 ⟨?_, rfl⟩, rfl⟩
  have : (true, ((11, 0, 0, 0) : Cmd)) = (decide (Y - y = 0) && decide (X - x = -1), ((11, 0, 0, 0) : Cmd)) := by
    congr 1; simp; omega
  rw [this]; simp [moL]
/-- the program's moves lead there -/
theorem Away.moves (H : Away w h x y X Y b) {c : Cmd} (hc : c ∈ movesM h x y X Y) : leads w h x y b X Y c = true ∧ (c = goC X Y ∨ (∃ k a, c = (k, a, 0, 0) ∧ (k = 3 ∨ k = 4 ∨ k = 5 ∨ k = 6) ∧ 1 ≤ a ∧ a ≤ 80) ∨ c = (9, 0, 0, 0) ∨ (c = (10, 0, 0, 0) ∧ y < h - 1) ∨ c = (11, 0, 0, 0)) := by
  have hw := H.wrap
  obtain ⟨⟨s1, s2, s3, s4⟩, hx, hy, hX, hY, hb, hno⟩ := H
  obtain ⟨⟨k, c'⟩, h1, rfl⟩ := List.mem_map.1 hc
  obtain ⟨h2, h3⟩ := List.mem_filter.1 h1
  simp only at h3
  subst h3
  simp only [moL, List.mem_cons, List.not_mem_nil, or_false, Prod.mk.injEq] at h2
  have go : ∀ {z1 z2 : Int}, z1 = X → z2 = Y → ((z1, z2, false) : Int × Int × Bool).1 = X ∧ ((z1, z2, false) : Int × Int × Bool).2.1 = Y ∧ ((z1, z2, false) : Int × Int × Bool).2.2 = false := fun h1 h2 => ⟨h1, h2, rfl⟩
  rcases h2 with ⟨-, rfl⟩ | ⟨q, rfl⟩ | ⟨q, rfl⟩ | ⟨q, rfl⟩ | ⟨q, rfl⟩ | ⟨q, rfl⟩ | ⟨q, rfl⟩ | ⟨q, rfl⟩
  · refine ⟨leads_iff.2 ?_, .inl rfl⟩
    show (curK w h x y b (2, Y, X, 0)).1 = X ∧ _
    rw [cur_go]; exact go (inM_in (by omega) (by omega)) (inM_in (by omega) (by omega))
  · simp at q
    refine ⟨leads_iff.2 ?_, .inr (.inl ⟨_, _, rfl, by decide, by omega, by omega⟩)⟩
    rw [cur_up]; exact ⟨by simp only [inM]; omega, by simp only [inM]; omega, rfl⟩
  · simp at q
    refine ⟨leads_iff.2 ?_, .inr (.inl ⟨_, _, rfl, by decide, by omega, by omega⟩)⟩
    rw [cur_down]; exact ⟨by simp only [inM]; omega, by simp only [inM]; omega, rfl⟩
  · simp at q
    refine ⟨leads_iff.2 ?_, .inr (.inl ⟨_, _, rfl, by decide, by omega, by omega⟩)⟩
    rw [cur_right]; exact ⟨by simp only [inM]; omega, by simp only [inM]; omega, rfl⟩
  · simp at q
    refine ⟨leads_iff.2 ?_, .inr (.inl ⟨_, _, rfl, by decide, by omega, by omega⟩)⟩
    rw [cur_left]; exact ⟨by simp only [inM]; omega, by simp only [inM]; omega, rfl⟩
  · simp at q
    refine ⟨leads_iff.2 ?_, .inr (.inr (.inl rfl))⟩
    rw [cur_home]; exact ⟨by simp only [inM]; omega, by simp only [inM]; omega, rfl⟩
  · simp at q
    refine ⟨leads_iff.2 ?_, .inr (.inr (.inr (.inl ⟨rfl, by omega⟩)))⟩
    rw [cur_feed, downL, if_neg (by omega)]; exact ⟨by simp only; omega, by simp only; omega, rfl⟩
  · simp at q
    refine ⟨leads_iff.2 ?_, .inr (.inr (.inr (.inr rfl)))⟩
    rw [cur_back]; exact ⟨by simp only [inM]; omega, by simp only [inM]; omega, rfl⟩
end
theorem pw_filter_map {P : Cmd → Cmd → Prop} : ∀ (l : List (Bool × Cmd)), (l.map (·.2)).Pairwise P → ((l.filter (·.1)).map (·.2)).Pairwise P
  | [], _ => List.Pairwise.nil
  | (k, c) :: l, h => by
    have h' := List.pairwise_cons.1 h
    rw [List.filter_cons]
    split
    · refine List.pairwise_cons.2 ⟨fun d hd => h'.1 d ?_, pw_filter_map l h'.2⟩
      obtain ⟨z, z1, z2⟩ := List.mem_map.1 hd
      exact List.mem_map.2 ⟨z, (List.mem_filter.1 z1).1, z2⟩
    · exact pw_filter_map l h'.2
theorem movesM_pw (h x y X Y : Int) : (movesM h x y X Y).Pairwise kle := by
  apply pw_filter_map
  simp [moL, kle, goC]
theorem upsL_mem {k : Int} {c : Cmd} : c ∈ upsL k ↔ ∃ a : Int, c = (k, a, 0, 0) ∧ 1 ≤ a ∧ a ≤ 80 := by
  unfold upsL
  simp only [List.mem_map, List.mem_range]
  constructor
  · rintro ⟨n, hn, rfl⟩; exact ⟨_, rfl, by omega, by omega⟩
  · rintro ⟨a, rfl, h1, h2⟩
    refine ⟨(a - 1).toNat, by omega, ?_⟩
    congr 2; omega
theorem upsL_pw (k : Int) : (upsL k).Pairwise kle := by
  unfold upsL
  rw [List.pairwise_map]
  refine List.Pairwise.imp (R := (· < ·)) (fun h => .inr ⟨rfl, by simp only; omega⟩) List.pairwise_lt_range
theorem restL_pw (f : Bool) : (upsL 3 ++ upsL 4 ++ upsL 5 ++ upsL 6 ++ [((9, 0, 0, 0) : Cmd)] ++ (if f then [(10, 0, 0, 0)] else []) ++ [(11, 0, 0, 0)]).Pairwise kle := by
  have low : ∀ {c : Cmd} {k : Int}, c ∈ upsL k → c.1 = k := fun h => by obtain ⟨a, rfl, _⟩ := upsL_mem.1 h; rfl
  have ten : ∀ {c : Cmd}, c ∈ (if f then [((10, 0, 0, 0) : Cmd)] else []) → c.1 = 10 := fun {c} h => by
    cases f
    · simp at h
    · simp at h; rw [h]
  have tenp : (if f then [((10, 0, 0, 0) : Cmd)] else []).Pairwise kle := by cases f <;> simp
  simp only [List.pairwise_append, upsL_pw, tenp, List.pairwise_singleton, List.mem_append, List.mem_singleton, true_and, and_true]
  refine ⟨⟨⟨⟨⟨?_, ?_⟩, ?_⟩, ?_⟩, ?_⟩, ?_⟩
  · intro a ha d hd; have := low ha; have := low hd; exact .inl (by omega)
  · rintro a (ha | ha) d hd <;> (have := low ha; have := low hd; exact .inl (by omega))
  · rintro a ((ha | ha) | ha) d hd <;> (have := low ha; have := low hd; exact .inl (by omega))
  · rintro a (((ha | ha) | ha) | ha) d rfl <;> (have := low ha; exact .inl (by simp only; omega))
  · rintro a ((((ha | ha) | ha) | ha) | rfl) d hd <;> have := ten hd
    all_goals first | (have := low ha; exact .inl (by omega)) | exact .inl (by simp only; omega)
  · rintro a (((((ha | ha) | ha) | ha) | rfl) | ha) d rfl
    all_goals first | (have := low ha; exact .inl (by simp only; omega)) | (have := ten ha; exact .inl (by simp only; omega)) | exact .inl (by simp only; omega)
theorem restL_mem {f : Bool} {c : Cmd} : c ∈ (upsL 3 ++ upsL 4 ++ upsL 5 ++ upsL 6 ++ [((9, 0, 0, 0) : Cmd)] ++ (if f then [(10, 0, 0, 0)] else []) ++ [(11, 0, 0, 0)]) ↔ (∃ k a, c = (k, a, 0, 0) ∧ (k = 3 ∨ k = 4 ∨ k = 5 ∨ k = 6) ∧ 1 ≤ a ∧ a ≤ 80) ∨ c = (9, 0, 0, 0) ∨ (c = (10, 0, 0, 0) ∧ f = true) ∨ c = (11, 0, 0, 0) := by
  simp only [List.mem_append, upsL_mem, List.mem_singleton]
  constructor
  · rintro ((((((⟨a, h⟩ | ⟨a, h⟩) | ⟨a, h⟩) | ⟨a, h⟩) | h) | h) | h)
    · exact .inl ⟨3, a, h.1, .inl rfl, h.2⟩
    · exact .inl ⟨4, a, h.1, .inr (.inl rfl), h.2⟩
    · exact .inl ⟨5, a, h.1, .inr (.inr (.inl rfl)), h.2⟩
    · exact .inl ⟨6, a, h.1, .inr (.inr (.inr rfl)), h.2⟩
    · exact .inr (.inl h)
    · cases f
      · simp at h
      · simp at h; exact .inr (.inr (.inl ⟨h, rfl⟩))
    · exact .inr (.inr (.inr h))
  · rintro (⟨k, a, h, (rfl | rfl | rfl | rfl), h2⟩ | h | ⟨h, rfl⟩ | h)
    · exact .inl (.inl (.inl (.inl (.inl (.inl ⟨a, h, h2⟩)))))
    · exact .inl (.inl (.inl (.inl (.inl (.inr ⟨a, h, h2⟩)))))
    · exact .inl (.inl (.inl (.inl (.inr ⟨a, h, h2⟩))))
    · exact .inl (.inl (.inl (.inr ⟨a, h, h2⟩)))
    · exact .inl (.inl (.inr h))
    · exact .inl (.inr (by simp [h]))
    · exact .inr h
/-- the program's answer is the reference's -/
theorem Away.same {w h x y X Y : Int} {b : Bool} (H : Away w h x y X Y b) : ((allL (decide (y < h - 1)) X Y).foldl (refStep (leads w h x y b X Y)) ((0, 0, 0, 0), 9)).1 = bestM (movesM h x y X Y) (goC X Y) := by
  have hX := H.hX
  have hY := H.hY
  have hs := H.hs
  have lg : leads w h x y b X Y (goC X Y) = true := leads_iff.2 (by
    show (curK w h x y b (2, Y, X, 0)).1 = X ∧ (curK w h x y b (2, Y, X, 0)).2.1 = Y ∧ (curK w h x y b (2, Y, X, 0)).2.2 = false
    rw [cur_go]; exact ⟨inM_in (by omega) (by omega), inM_in (by omega) (by omega), rfl⟩)
  have hg := lenC_le (goC X Y)
  unfold allL
  rw [List.foldl_cons, show refStep (leads w h x y b X Y) ((0, 0, 0, 0), 9) (goC X Y) = (goC X Y, lenC (goC X Y)) from if_pos ⟨by show lenC (goC X Y) < 9; omega, lg⟩, ref_best]
  simp only
  have p1 := best_ok ((upsL 3 ++ upsL 4 ++ upsL 5 ++ upsL 6 ++ [((9, 0, 0, 0) : Cmd)] ++ (if decide (y < h - 1) then [(10, 0, 0, 0)] else []) ++ [(11, 0, 0, 0)]).filter (leads w h x y b X Y)) (goC X Y) (fun d hd => by
    rcases restL_mem.1 (List.mem_filter.1 hd).1 with ⟨k, a, rfl, hk, _⟩ | rfl | ⟨rfl, _⟩ | rfl
    · exact .inl (show (2 : Int) < k by omega)
    · exact .inl (show (2 : Int) < 9 by omega)
    · exact .inl (show (2 : Int) < 10 by omega)
    · exact .inl (show (2 : Int) < 11 by omega)) ((restL_pw _).filter _)
  have p2 := best_ok (movesM h x y X Y) (goC X Y) (fun d hd => by
    rcases (H.moves hd).2 with rfl | ⟨k, a, rfl, hk, _⟩ | rfl | ⟨rfl, _⟩ | rfl
    · exact .inr ⟨rfl, Int.le_refl _⟩
    · exact .inl (show (2 : Int) < k by omega)
    · exact .inl (show (2 : Int) < 9 by omega)
    · exact .inl (show (2 : Int) < 10 by omega)
    · exact .inl (show (2 : Int) < 11 by omega)) (movesM_pw h x y X Y)
  generalize bestM ((upsL 3 ++ upsL 4 ++ upsL 5 ++ upsL 6 ++ [((9, 0, 0, 0) : Cmd)] ++ (if decide (y < h - 1) then [(10, 0, 0, 0)] else []) ++ [(11, 0, 0, 0)]).filter (leads w h x y b X Y)) (goC X Y) = r1 at *
  generalize bestM (movesM h x y X Y) (goC X Y) = r2 at *
  obtain ⟨m1, q1⟩ := p1
  obtain ⟨m2, q2⟩ := p2
  have in2 : ∀ d, d = goC X Y ∨ d ∈ movesM h x y X Y → lexle r1 d := fun d hd => by
    rcases hd with rfl | hd
    · exact q1 _ List.mem_cons_self
    · obtain ⟨k1, k2⟩ := H.moves hd
      rcases k2 with rfl | k2
      · exact q1 _ List.mem_cons_self
      · refine q1 _ (List.mem_cons_of_mem _ (List.mem_filter.2 ⟨restL_mem.2 ?_, k1⟩))
        rcases k2 with k2 | k2 | k2 | k2
        · exact .inl k2
        · exact .inr (.inl k2)
        · exact .inr (.inr (.inl ⟨k2.1, decide_eq_true k2.2⟩))
        · exact .inr (.inr (.inr k2))
  have l12 : lexle r1 r2 := in2 r2 (by rcases List.mem_cons.1 m2 with h | h; exact .inl h; exact .inr h)
  have l21 : lexle r2 r1 := by
    rcases List.mem_cons.1 m1 with rfl | hm
    · exact q2 _ List.mem_cons_self
    · obtain ⟨k1, k2⟩ := List.mem_filter.1 hm
      rcases restL_mem.1 k1 with ⟨k, a, rfl, hk, ha⟩ | rfl | ⟨rfl, hf⟩ | rfl
      · obtain ⟨d, d1, d2⟩ := H.least hk ha k2
        exact lexle_trans (q2 d (List.mem_cons_of_mem _ d1)) d2
      · exact q2 _ (List.mem_cons_of_mem _ (H.home k2))
      · exact q2 _ (List.mem_cons_of_mem _ (H.feed (of_decide_eq_true hf) k2))
      · exact q2 _ (List.mem_cons_of_mem _ (H.back k2))
  have form1 : r1 = goC X Y ∨ ∃ k a, r1 = (k, a, 0, 0) ∧ 3 ≤ k := by
    rcases List.mem_cons.1 m1 with h | hm
    · exact .inl h
    · rcases restL_mem.1 (List.mem_filter.1 hm).1 with ⟨k, a, h, hk, _⟩ | h | ⟨h, _⟩ | h
      · exact .inr ⟨k, a, h, by omega⟩
      · exact .inr ⟨_, _, h, by omega⟩
      · exact .inr ⟨_, _, h, by omega⟩
      · exact .inr ⟨_, _, h, by omega⟩
  have form2 : r2 = goC X Y ∨ ∃ k a, r2 = (k, a, 0, 0) ∧ 3 ≤ k := by
    rcases List.mem_cons.1 m2 with h | hm
    · exact .inl h
    · rcases (H.moves hm).2 with h | ⟨k, a, h, hk, _⟩ | h | ⟨h, _⟩ | h
      · exact .inl h
      · exact .inr ⟨k, a, h, by omega⟩
      · exact .inr ⟨_, _, h, by omega⟩
      · exact .inr ⟨_, _, h, by omega⟩
      · exact .inr ⟨_, _, h, by omega⟩
  have e1 : r1.1 = r2.1 := by unfold lexle at l12 l21; omega
  have e2 : r1.2.1 = r2.2.1 := by unfold lexle at l12 l21; omega
  rcases form1 with rfl | ⟨k, a, rfl, hk⟩ <;> rcases form2 with rfl | ⟨k', a', rfl, hk'⟩
  · rfl
  · simp [goC] at e1; omega
  · simp [goC] at e1; omega
  · simp only at e1 e2; rw [e1, e2]
end Go.Proofs.YtgfmjmfphmjdkaaGreatDoor
