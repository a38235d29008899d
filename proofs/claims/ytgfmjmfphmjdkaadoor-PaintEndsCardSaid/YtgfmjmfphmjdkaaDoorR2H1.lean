/- Layer 27 (belief), plainly: what the reference lays is what the program lays. No condition. -/
import Derived.Test.YtgfmjmfphmjdkaaDoorR2B1
import Derived.Test.YtgfmjmfphmjdkaaDoorR2ZV
import Derived.Test.YtgfmjmfphmjdkaaDoorR2ZN
namespace Go.Proofs.YtgfmjmfphmjdkaaDoor
set_option linter.unusedSimpArgs false
set_option linter.unusedVariables false
set_option linter.unusedSectionVars false
set_option maxHeartbeats 4000000
open Go Go.RowKit
set_option maxRecDepth 100000
/-- where a sure cursor goes -/
theorem doB_sure {w h x y : Int} {l : List Guess} {b : Bool} {c : Cmd} (h1 : okBe w h l x y b true = true) (hc : isCmd c = true) (h12 : c.1 ≠ 12) : doB (w, h, l, x, y, b, true) c = (doBK w h l x y b c, 0) := by
  unfold doB
  rw [if_pos ⟨h1, hc⟩, if_neg (fun h => by cases h.1), if_neg (fun h => by rcases h with h | h; cases h.1; exact h12 h)]
theorem doB_go {w h x y : Int} {l : List Guess} {b s : Bool} {c : Cmd} (h1 : okBe w h l x y b s = true) (hc : isCmd c = true) (h2 : c.1 = 2) : doB (w, h, l, x, y, b, s) c = (doBK w h l x y b c, 0) := by
  unfold doB
  rw [if_pos ⟨h1, hc⟩, if_neg (fun h => by have := h.2; rw [h2] at this; revert this; decide), if_neg (fun h => by rcases h with h | h; exact h.2 h2; omega)]
theorem up_ok {k a : Int} (hk : k = 3 ∨ k = 4 ∨ k = 5 ∨ k = 6) (ha : 1 ≤ a ∧ a ≤ 80) : isCmd (k, a, 0, 0) = true := by
  simp only [isCmd]
  rw [if_neg (by omega), if_neg (by omega), if_pos (by omega)]; simp; omega
end Go.Proofs.YtgfmjmfphmjdkaaDoor
namespace Go.Proofs.YtgfmjmfphmjdkaaDoor
set_option linter.unusedSimpArgs false
set_option linter.unusedVariables false
set_option linter.unusedSectionVars false
set_option maxHeartbeats 4000000
open Go Go.RowKit
set_option maxRecDepth 100000
/-- the moves of the program -/
def goC (X Y : Int) : Cmd := (2, Y, X, 0)
def moL (h x y X Y : Int) : List (Bool × Cmd) := [(true, goC X Y),
  (decide (X - x = 0) && (decide (Y - y < 0) || ((decide (X - x = 0) && decide (Y - y = 0)) && decide (Y = 0))), (3, max 1 (-(Y - y)), 0, 0)),
  (decide (X - x = 0) && (decide (Y - y > 0) || ((decide (X - x = 0) && decide (Y - y = 0)) && decide (Y = h - 1))), (4, max 1 (Y - y), 0, 0)),
  (decide (Y - y = 0) && (decide (X - x > 0) || (decide (X - x = 0) && decide (Y - y = 0))), (5, max 1 (X - x), 0, 0)),
  (decide (Y - y = 0) && decide (X - x < 0), (6, max 1 (-(X - x)), 0, 0)),
  (decide (Y - y = 0) && decide (X = 0), (9, 0, 0, 0)),
  (decide (X - x = 0) && decide (Y - y = 1), (10, 0, 0, 0)),
  (decide (Y - y = 0) && decide (X - x = -1), (11, 0, 0, 0))]
def movesM (h x y X Y : Int) : List Cmd := ((moL h x y X Y).filter (·.1)).map (·.2)
/-! ### a move, as the program holds it -/
def moT : Ty (Bool × Cmd) := { enc := fun m => [.bool m.1, .int .i64 m.2.1, .int .i64 m.2.2.1, .int .i64 m.2.2.2.1, .int .i32 m.2.2.2.2], k := 5, len := fun _ => rfl }
def moA (m : Bool × Cmd) : AV := aggA [B m.1, I m.2.1, I m.2.2.1, I m.2.2.2.1, R m.2.2.2.2]
theorem us_mo : Tryd.prog.underlying 92 = some (.struct #[{ name := "is", type := 4, offset := 0, embedded := false, tag := "", pkgPath := "typebar/motion", byteOffset := 0 }, { name := "c", type := 31, offset := 1, embedded := false, tag := "", pkgPath := "typebar/motion", byteOffset := 8 }]) := Tryd.underlying92
instance cStMo : StC 92 [B false, I 0, I 0, I 0, R 0] [(0, 1), (1, 4)] := ⟨StT.mk' _ [.bool false, .int .i64 0, .int .i64 0, .int .i64 0, .int .i32 0] us_mo (by kernel_rfl) (by kernel_rfl)⟩
instance cFlMo0 : FldC 92 0 0 4 := ⟨_, _, us_mo, rfl, rfl, rfl⟩
instance cFlMo1 : FldC 92 1 1 31 := ⟨_, _, us_mo, rfl, rfl, rfl⟩
instance cSzMo : SzC 92 5 := ⟨size_of (by kernel_rfl)⟩
instance cAlMo : AlC 92 (.agg #[.bool false, .int .i64 0, .int .i64 0, .int .i64 0, .int .i32 0]) [.bool false, .int .i64 0, .int .i64 0, .int .i64 0, .int .i32 0] [B false, I 0, I 0, I 0, R 0] := ⟨by kernel_rfl, rfl, rfl⟩
theorem el_mo : El Tryd.prog moT 92 (false, 0, 0, 0, 0) 40 moA := ⟨⟨.agg #[.bool false, .int .i64 0, .int .i64 0, .int .i64 0, .int .i32 0], by kernel_rfl, rfl⟩, by decide, fun x v hv => by simp [moT] at hv; rcases hv with rfl | rfl | rfl | rfl | rfl <;> rfl, .inl ⟨agg_yes (by kernel_rfl), fun x => rfl⟩⟩
instance cElMo : ElC 92 moT (false, 0, 0, 0, 0) 40 moA := ⟨el_mo⟩
theorem un_mos : Tryd.prog.underlying 93 = some (.slice 92) := Tryd.underlying93
instance cUnMos : UnC 93 (.slice 92) := ⟨un_mos⟩
end Go.Proofs.YtgfmjmfphmjdkaaDoor
namespace Go.Proofs.YtgfmjmfphmjdkaaDoor
set_option linter.unusedSimpArgs false
set_option linter.unusedVariables false
set_option linter.unusedSectionVars false
set_option maxHeartbeats 4000000
open Go Go.RowKit
set_option maxRecDepth 100000
/-- fewer bytes, or as many and a lesser kind, or number -/
def lexle (c d : Cmd) : Prop := lenC c < lenC d ∨ (lenC c = lenC d ∧ (c.1 < d.1 ∨ (c.1 = d.1 ∧ c.2.1 ≤ d.2.1)))
def kle (c d : Cmd) : Prop := c.1 < d.1 ∨ (c.1 = d.1 ∧ c.2.1 ≤ d.2.1)
theorem lexle_refl (c : Cmd) : lexle c c := .inr ⟨rfl, .inr ⟨rfl, Int.le_refl _⟩⟩
theorem lexle_trans {a b c : Cmd} (h1 : lexle a b) (h2 : lexle b c) : lexle a c := by
  unfold lexle at *; omega
theorem lexle_of {a b : Cmd} (h : lenC a ≤ lenC b) (k : kle a b) : lexle a b := by
  unfold lexle kle at *; omega
def bestM (l : List Cmd) (b : Cmd) : Cmd := l.foldl (fun b c => if lenC c < lenC b then c else b) b
theorem bestM_cons (c : Cmd) (l : List Cmd) (b : Cmd) : bestM (c :: l) b = bestM l (if lenC c < lenC b then c else b) := rfl
theorem best_ok : ∀ (l : List Cmd) (b : Cmd), (∀ d ∈ l, kle b d) → l.Pairwise kle → bestM l b ∈ b :: l ∧ ∀ d ∈ b :: l, lexle (bestM l b) d
  | [], b, _, _ => ⟨List.mem_cons_self, fun d hd => by simp at hd; subst hd; exact lexle_refl _⟩
  | c :: l, b, hb, hp => by
    rw [bestM_cons]
    have hc := List.pairwise_cons.1 hp
    by_cases e : lenC c < lenC b
    · rw [if_pos e]
      obtain ⟨i1, i2⟩ := best_ok l c hc.1 hc.2
      refine ⟨List.mem_cons_of_mem _ i1, fun d hd => ?_⟩
      rcases List.mem_cons.1 hd with rfl | hd
      · exact lexle_trans (i2 c List.mem_cons_self) (.inl e)
      · exact i2 d hd
    · rw [if_neg e]
      obtain ⟨i1, i2⟩ := best_ok l b (fun d hd => hb d (List.mem_cons_of_mem _ hd)) hc.2
      refine ⟨?_, fun d hd => ?_⟩
      · rcases List.mem_cons.1 i1 with i1 | i1
        · rw [i1]; exact List.mem_cons_self
        · exact List.mem_cons_of_mem _ (List.mem_cons_of_mem _ i1)
      · rcases List.mem_cons.1 hd with rfl | hd
        · exact i2 _ List.mem_cons_self
        · rcases List.mem_cons.1 hd with rfl | hd
          · exact lexle_trans (i2 b List.mem_cons_self) (lexle_of (by omega) (hb _ List.mem_cons_self))
          · exact i2 d (List.mem_cons_of_mem _ hd)
/-- what the program tells -/
noncomputable def nextMo (b : Bel) (X Y : Int) : Cmd × Int :=
  if ¬ (okBl b = true ∧ 0 ≤ X ∧ X < b.1 ∧ 0 ≤ Y ∧ Y < b.2.1) then ((0, 0, 0, 0), 1)
  else if b.2.2.2.2.2.2 = false then (goC X Y, 0)
  else if b.2.2.2.1 = X ∧ b.2.2.2.2.1 = Y ∧ b.2.2.2.2.2.1 = false then ((0, 0, 0, 0), 7)
  else (bestM (movesM b.2.1 b.2.2.2.1 b.2.2.2.2.1 X Y) (goC X Y), 0)
/-- does a command lead there? -/
noncomputable def leads (w h x y : Int) (b : Bool) (X Y : Int) (c : Cmd) : Bool := decide (curK w h x y b c = (X, Y, false))
/-- where the moves lead -/
theorem cur_go (w h x y : Int) (b : Bool) (A B : Int) : curK w h x y b (2, A, B, 0) = (inM B (w - 1), inM A (h - 1), false) := rfl
theorem cur_up (w h x y : Int) (b : Bool) (a : Int) : curK w h x y b (3, a, 0, 0) = (inM x (w - 1), inM (y - a) (h - 1), false) := rfl
theorem cur_down (w h x y : Int) (b : Bool) (a : Int) : curK w h x y b (4, a, 0, 0) = (inM x (w - 1), inM (y + a) (h - 1), false) := rfl
theorem cur_right (w h x y : Int) (b : Bool) (a : Int) : curK w h x y b (5, a, 0, 0) = (inM (x + a) (w - 1), inM y (h - 1), false) := rfl
theorem cur_left (w h x y : Int) (b : Bool) (a : Int) : curK w h x y b (6, a, 0, 0) = (inM (x - a) (w - 1), inM y (h - 1), false) := rfl
theorem cur_home (w h x y : Int) (b : Bool) : curK w h x y b (9, 0, 0, 0) = (inM 0 (w - 1), inM y (h - 1), false) := rfl
theorem cur_feed (w h x y : Int) (b : Bool) : curK w h x y b (10, 0, 0, 0) = (x, (downL w h [] y).2, false) := rfl
theorem cur_back (w h x y : Int) (b : Bool) : curK w h x y b (11, 0, 0, 0) = (inM (x - 1) (w - 1), inM y (h - 1), false) := rfl
theorem leads_iff {w h x y : Int} {b : Bool} {X Y : Int} {c : Cmd} : leads w h x y b X Y c = true ↔ (curK w h x y b c).1 = X ∧ (curK w h x y b c).2.1 = Y ∧ (curK w h x y b c).2.2 = false := by
  rw [leads, decide_eq_true_eq, Prod.ext_iff, Prod.ext_iff]
section
variable {w h x y X Y : Int} {b : Bool}
/-- a right and sure cursor that is not there -/
structure Away (w h x y X Y : Int) (b : Bool) : Prop where
  hs : 2 ≤ w ∧ w ≤ 80 ∧ 1 ≤ h ∧ h ≤ 24
  hx : 0 ≤ x ∧ x < w
  hy : 0 ≤ y ∧ y < h
  hX : 0 ≤ X ∧ X < w
  hY : 0 ≤ Y ∧ Y < h
  hb : b = true → x = w - 1
  hno : ¬ (x = X ∧ y = Y ∧ b = false)
theorem Away.wrap (H : Away w h x y X Y b) (h1 : x = X) (h2 : y = Y) : x = w - 1 := by
  cases e : b with
  | true => exact H.hb e
  | false => exact absurd ⟨h1, h2, e⟩ H.hno
/-- the program's moves lead there -/
theorem Away.moves (H : Away w h x y X Y b) {c : Cmd} (hc : c ∈ movesM h x y X Y) : leads w h x y b X Y c = true ∧ (c = goC X Y ∨ (∃ k a, c = (k, a, 0, 0) ∧ (k = 3 ∨ k = 4 ∨ k = 5 ∨ k = 6) ∧ 1 ≤ a ∧ a ≤ 80) ∨ c = (9, 0, 0, 0) ∨ (c = (10, 0, 0, 0) ∧ y < h - 1) ∨ c = (11, 0, 0, 0)) := by
  have hw := H.wrap
  obtain ⟨⟨s1, s2, s3, s4⟩, hx, hy, hX, hY, hb, hno⟩ := H
  obtain ⟨⟨k, c'⟩, h1, rfl⟩ := List.mem_map.1 hc
  obtain ⟨h2, h3⟩ := List.mem_filter.1 h1
  simp only at h3
  subst h3
  simp only [moL, List.mem_cons, List.not_mem_nil, or_false, Prod.mk.injEq] at h2
  have go : ∀ {z1 z2 : Int}, z1 = X → z2 = Y → ((z1, z2, false) : Int × Int × Bool).1 = X ∧ ((z1, z2, false) : Int × Int × Bool).2.1 = Y ∧ ((z1, z2, false) : Int × Int × Bool).2.2 = false := fun h1 h2 => ⟨h1, h2, rfl⟩
  rcases h2 with ⟨-, rfl⟩ | ⟨q, rfl⟩ | ⟨q, rfl⟩ | ⟨q, rfl⟩ | ⟨q, rfl⟩ | ⟨q, rfl⟩ | ⟨q, rfl⟩ | ⟨q, rfl⟩
  · refine ⟨leads_iff.2 ?_, .inl rfl⟩
    show (curK w h x y b (2, Y, X, 0)).1 = X ∧ _
    rw [cur_go]; exact go (inM_in (by omega) (by omega)) (inM_in (by omega) (by omega))
  · simp at q
    refine ⟨leads_iff.2 ?_, .inr (.inl ⟨_, _, rfl, by decide, by omega, by omega⟩)⟩
    rw [cur_up]; exact ⟨by simp only [inM]; omega, by simp only [inM]; omega, rfl⟩
  · simp at q
    refine ⟨leads_iff.2 ?_, .inr (.inl ⟨_, _, rfl, by decide, by omega, by omega⟩)⟩
    rw [cur_down]; exact ⟨by simp only [inM]; omega, by simp only [inM]; omega, rfl⟩
  · simp at q
    refine ⟨leads_iff.2 ?_, .inr (.inl ⟨_, _, rfl, by decide, by omega, by omega⟩)⟩
    rw [cur_right]; exact ⟨by simp only [inM]; omega, by simp only [inM]; omega, rfl⟩
  · simp at q
    refine ⟨leads_iff.2 ?_, .inr (.inl ⟨_, _, rfl, by decide, by omega, by omega⟩)⟩
    rw [cur_left]; exact ⟨by simp only [inM]; omega, by simp only [inM]; omega, rfl⟩
  · simp at q
    refine ⟨leads_iff.2 ?_, .inr (.inr (.inl rfl))⟩
    rw [cur_home]; exact ⟨by simp only [inM]; omega, by simp only [inM]; omega, rfl⟩
  · simp at q
    refine ⟨leads_iff.2 ?_, .inr (.inr (.inr (.inl ⟨rfl, by omega⟩)))⟩
    rw [cur_feed, downL, if_neg (by omega)]; exact ⟨by simp only; omega, by simp only; omega, rfl⟩
  · simp at q
    refine ⟨leads_iff.2 ?_, .inr (.inr (.inr (.inr rfl)))⟩
    rw [cur_back]; exact ⟨by simp only [inM]; omega, by simp only [inM]; omega, rfl⟩
end
theorem pw_filter_map {P : Cmd → Cmd → Prop} : ∀ (l : List (Bool × Cmd)), (l.map (·.2)).Pairwise P → ((l.filter (·.1)).map (·.2)).Pairwise P
  | [], _ => List.Pairwise.nil
  | (k, c) :: l, h => by
    have h' := List.pairwise_cons.1 h
    rw [List.filter_cons]
    split
    · refine List.pairwise_cons.2 ⟨fun d hd => h'.1 d ?_, pw_filter_map l h'.2⟩
      obtain ⟨z, z1, z2⟩ := List.mem_map.1 hd
      exact List.mem_map.2 ⟨z, (List.mem_filter.1 z1).1, z2⟩
    · exact pw_filter_map l h'.2
theorem movesM_pw (h x y X Y : Int) : (movesM h x y X Y).Pairwise kle := by
  apply pw_filter_map
  simp [moL, kle, goC]
end Go.Proofs.YtgfmjmfphmjdkaaDoor
namespace Go.Proofs.YtgfmjmfphmjdkaaDoor
set_option linter.unusedSimpArgs false
set_option linter.unusedVariables false
set_option linter.unusedSectionVars false
set_option maxHeartbeats 4000000
open Go Go.RowKit
set_option maxRecDepth 100000
def curKC (w h x y : Int) (b : Bool) (c : Cmd) : Int × Int × Bool := (doKC w h [] x y b c).2.2.2
theorem curK_c (w h x y : Int) (b : Bool) (c : Cmd) : curK w h x y b c = curKC w h x y b c := by unfold curK curKC; rw [doK_c]
def okBeC (w h : Int) (l : List Guess) (x y : Int) (b s : Bool) : Bool := (sidesM w h && decide ((l.length : Int) = w * h) && (List.range l.length).all (gsOk w.toNat l)) && curB w h x y b s
theorem okBe_c (w h : Int) (l : List Guess) (x y : Int) (b s : Bool) : okBe w h l x y b s = okBeC w h l x y b s := by
  unfold okBe okBeC; congr 1; rw [Bool.eq_iff_iff]; simp [OkL, sidesM, and_assoc]
abbrev okBlC (b : Bel) : Bool := okBeC b.1 b.2.1 b.2.2.1 b.2.2.2.1 b.2.2.2.2.1 b.2.2.2.2.2.1 b.2.2.2.2.2.2
def doBKC (w h : Int) (l : List Guess) (x y : Int) (b : Bool) (c : Cmd) : Bel :=
  (w, h, listK w.toNat h.toNat l x.toNat y.toNat b c, (curKC w h x y b c).1, (curKC w h x y b c).2.1, (curKC w h x y b c).2.2, true)
def doBC (b : Bel) (c : Cmd) : Bel × Int :=
  if okBlC b = true ∧ isCmd c = true then
    if b.2.2.2.2.2.2 = false ∧ chg c.1 = true then newB b.1 b.2.1
    else if (b.2.2.2.2.2.2 = false ∧ c.1 ≠ 2) ∨ c.1 = 12 then (b, 0)
    else (doBKC b.1 b.2.1 b.2.2.1 b.2.2.2.1 b.2.2.2.2.1 b.2.2.2.2.2.1 c, 0)
  else (noB, 1)
theorem doBK_c (w h : Int) (l : List Guess) (x y : Int) (b : Bool) (c : Cmd) : doBK w h l x y b c = doBKC w h l x y b c := by unfold doBK doBKC; rw [curK_c]
theorem doB_c (b : Bel) (c : Cmd) : doB b c = doBC b c := by unfold doB doBC okBl okBlC; rw [okBe_c, doBK_c]
def ofBC (t : Tm) : Bel × Int := if okTC t.1 t.2.1 t.2.2.1 t.2.2.2.1 t.2.2.2.2.1 t.2.2.2.2.2 = true then ((t.1, t.2.1, ofL t.2.2.1, t.2.2.2.1, t.2.2.2.2.1, t.2.2.2.2.2, true), 0) else (noB, 1)
theorem ofB_c (t : Tm) : ofB t = ofBC t := by unfold ofB ofBC okTm; rw [okT_c]
end Go.Proofs.YtgfmjmfphmjdkaaDoor
namespace Go.Proofs.YtgfmjmfphmjdkaaDoor
set_option linter.unusedSimpArgs false
set_option linter.unusedVariables false
set_option linter.unusedSectionVars false
set_option maxHeartbeats 4000000
open Go Go.RowKit
set_option maxRecDepth 100000
theorem bestM_snoc (l : List Cmd) (c b : Cmd) : bestM (l ++ [c]) b = if lenC c < lenC (bestM l b) then c else bestM l b := by
  unfold bestM; rw [List.foldl_append]; rfl
/-- is this its cursor? -/
def isAt (b : Bel) (X Y : Int) : Bool := b.2.2.2.2.2.2 && decide (b.2.2.2.1 = X) && decide (b.2.2.2.2.1 = Y) && !b.2.2.2.2.2.1
theorem isAt_iff {b : Bel} {X Y : Int} : isAt b X Y = true ↔ b.2.2.2.2.2.2 = true ∧ b.2.2.2.1 = X ∧ b.2.2.2.2.1 = Y ∧ b.2.2.2.2.2.1 = false := by simp [isAt, and_assoc]
theorem goC_ok {X Y : Int} (hx : 0 ≤ X ∧ X ≤ 79) (hy : 0 ≤ Y ∧ Y ≤ 23) : isCmd (goC X Y) = true := by
  have : isCmd (2, Y, X, 0) = true := by simp [isCmd]; omega
  exact this
theorem nextMo_here {b : Bel} {X Y : Int} (h1 : okBl b = true) (hX : 0 ≤ X ∧ X < b.1) (hY : 0 ≤ Y ∧ Y < b.2.1) (hn : isAt b X Y = true) : nextMo b X Y = ((0, 0, 0, 0), 7) := by
  obtain ⟨w, h, l, x, y, bb, s⟩ := b
  simp only [isAt, Bool.and_eq_true, decide_eq_true_eq, Bool.not_eq_true'] at hn
  obtain ⟨⟨⟨a1, a2⟩, a3⟩, a4⟩ := hn
  unfold nextMo
  rw [if_neg (fun z => z ⟨h1, hX.1, hX.2, hY.1, hY.2⟩), if_neg (by simp only; rw [a1]; decide), if_pos ⟨a2, a3, a4⟩]
/-- what is told when something is told: a move that leads there -/
theorem nextMo_ok {b : Bel} {X Y : Int} (h : (nextMo b X Y).2 = 0) : okBl b = true ∧ (0 ≤ X ∧ X < b.1) ∧ (0 ≤ Y ∧ Y < b.2.1) ∧ ((b.2.2.2.2.2.2 = false ∧ (nextMo b X Y).1 = goC X Y) ∨ (b.2.2.2.2.2.2 = true ∧ Away b.1 b.2.1 b.2.2.2.1 b.2.2.2.2.1 X Y b.2.2.2.2.2.1 ∧ (nextMo b X Y).1 = bestM (movesM b.2.1 b.2.2.2.1 b.2.2.2.2.1 X Y) (goC X Y))) := by
  by_cases h0 : okBl b = true ∧ 0 ≤ X ∧ X < b.1 ∧ 0 ≤ Y ∧ Y < b.2.1
  · refine ⟨h0.1, ⟨h0.2.1, h0.2.2.1⟩, ⟨h0.2.2.2.1, h0.2.2.2.2⟩, ?_⟩
    unfold nextMo at h ⊢
    rw [if_neg (fun z => z h0)] at h ⊢
    by_cases hs : b.2.2.2.2.2.2 = false
    · rw [if_pos hs]; exact .inl ⟨hs, rfl⟩
    · rw [if_neg hs] at h ⊢
      by_cases ht : b.2.2.2.1 = X ∧ b.2.2.2.2.1 = Y ∧ b.2.2.2.2.2.1 = false
      · rw [if_pos ht] at h; cases h
      · rw [if_neg ht]
        obtain ⟨w', h', e1, e2, w2, w3, w4, w5, hl, hk, p1, p2⟩ := okBe_iff.1 h0.1
        have hs' : b.2.2.2.2.2.2 = true := by simpa using hs
        obtain ⟨q1, q2, q3, q4, q5⟩ := p1 hs'
        exact .inr ⟨hs', ⟨⟨by omega, by omega, by omega, by omega⟩, ⟨q1, by omega⟩, ⟨q3, by omega⟩, ⟨h0.2.1, h0.2.2.1⟩, ⟨h0.2.2.2.1, h0.2.2.2.2⟩, fun e => by have := q5 e; omega, ht⟩, rfl⟩
  · unfold nextMo at h; rw [if_pos h0] at h; cases h
/-- the forms of a move -/
def MoveC (h y : Int) (X Y : Int) (c : Cmd) : Prop := c = goC X Y ∨ (∃ k a, c = (k, a, 0, 0) ∧ (k = 3 ∨ k = 4 ∨ k = 5 ∨ k = 6) ∧ 1 ≤ a ∧ a ≤ 80) ∨ c = (9, 0, 0, 0) ∨ (c = (10, 0, 0, 0) ∧ y < h - 1) ∨ c = (11, 0, 0, 0)
theorem Away.best {w h x y X Y : Int} {b : Bool} (H : Away w h x y X Y b) : leads w h x y b X Y (bestM (movesM h x y X Y) (goC X Y)) = true ∧ MoveC h y X Y (bestM (movesM h x y X Y) (goC X Y)) ∧ (∀ d, d = goC X Y ∨ d ∈ movesM h x y X Y → lexle (bestM (movesM h x y X Y) (goC X Y)) d) := by
  have hX := H.hX
  have hY := H.hY
  have hs := H.hs
  have lg : leads w h x y b X Y (goC X Y) = true := leads_iff.2 (by
    show (curK w h x y b (2, Y, X, 0)).1 = X ∧ (curK w h x y b (2, Y, X, 0)).2.1 = Y ∧ (curK w h x y b (2, Y, X, 0)).2.2 = false
    rw [cur_go]; exact ⟨inM_in (by omega) (by omega), inM_in (by omega) (by omega), rfl⟩)
  obtain ⟨m2, q2⟩ := best_ok (movesM h x y X Y) (goC X Y) (fun d hd => by
    rcases (H.moves hd).2 with rfl | ⟨k, a, rfl, hk, _⟩ | rfl | ⟨rfl, _⟩ | rfl
    · exact .inr ⟨rfl, Int.le_refl _⟩
    · exact .inl (show (2 : Int) < k by omega)
    · exact .inl (show (2 : Int) < 9 by omega)
    · exact .inl (show (2 : Int) < 10 by omega)
    · exact .inl (show (2 : Int) < 11 by omega)) (movesM_pw h x y X Y)
  refine ⟨?_, ?_, fun d hd => q2 d (by rcases hd with rfl | hd; exact List.mem_cons_self; exact List.mem_cons_of_mem _ hd)⟩
  · rcases List.mem_cons.1 m2 with e | e
    · rw [e]; exact lg
    · exact (H.moves e).1
  · rcases List.mem_cons.1 m2 with e | e
    · exact .inl e
    · exact (H.moves e).2
theorem moveC_ok {h y X Y : Int} {c : Cmd} (hx : 0 ≤ X ∧ X ≤ 79) (hy : 0 ≤ Y ∧ Y ≤ 23) (h1 : MoveC h y X Y c) : isCmd c = true ∧ c.1 ≠ 12 ∧ padC c = 0 ∧ (chg c.1 = true → c = (10, 0, 0, 0) ∧ y < h - 1) ∧ c.1 ≠ 1 ∧ c.1 ≠ 7 ∧ c.1 ≠ 8 := by
  have pd : ∀ c : Cmd, c.1 ≠ 7 → c.1 ≠ 8 → padC c = 0 := fun c a b => by unfold padC; rw [if_neg a, if_neg b]; split <;> rfl
  rcases h1 with rfl | ⟨k, a, rfl, hk, ha⟩ | rfl | ⟨rfl, hh⟩ | rfl
  · have n2 : ∀ k : Int, k ≠ 2 → (goC X Y).1 ≠ k := fun k hk e => hk e.symm
    exact ⟨goC_ok hx hy, n2 _ (by decide), pd _ (n2 _ (by decide)) (n2 _ (by decide)), fun e => (by simp [chg, goC] at e), n2 _ (by decide), n2 _ (by decide), n2 _ (by decide)⟩
  · refine ⟨up_ok hk ha, show k ≠ 12 by omega, pd _ (show k ≠ 7 by omega) (show k ≠ 8 by omega), fun e => ?_, show k ≠ 1 by omega, show k ≠ 7 by omega, show k ≠ 8 by omega⟩
    simp [chg] at e; omega
  · exact ⟨rfl, by decide, rfl, fun e => (by simp [chg] at e), by decide, by decide, by decide⟩
  · exact ⟨rfl, by decide, rfl, fun _ => ⟨rfl, hh⟩, by decide, by decide, by decide⟩
  · exact ⟨rfl, by decide, rfl, fun e => (by simp [chg] at e), by decide, by decide, by decide⟩
theorem moves_list {w h x y : Nat} {X Y : Int} {l : List Guess} {b : Bool} {c : Cmd} (hy : (y : Int) < h) (hx : 0 ≤ X ∧ X ≤ 79) (hY : 0 ≤ Y ∧ Y ≤ 23) (h1 : MoveC h y X Y c) : listK w h l x y b c = l := by
  obtain ⟨_, _, _, h4, h5, h6, h7⟩ := moveC_ok hx hY h1
  unfold listK
  rw [if_neg h5, if_neg h6, if_neg h7]
  split
  · rename_i e
    obtain ⟨_, h⟩ := h4 (by rw [e]; rfl)
    rw [if_pos (by omega)]
  · rfl
/-- what is told leads there, and changes nothing else -/
theorem next_leads {b : Bel} {X Y : Int} (h : (nextMo b X Y).2 = 0) : isCmd (nextMo b X Y).1 = true ∧ doB b (nextMo b X Y).1 = ((b.1, b.2.1, b.2.2.1, X, Y, false, true), 0) ∧ touchB b (nextMo b X Y).1 = (0, 0) ∧ padC (nextMo b X Y).1 = 0 ∧ lenC (nextMo b X Y).1 ≤ lenC (goC X Y) ∧ 1 ≤ lenC (nextMo b X Y).1 := by
  obtain ⟨h1, hX, hY, hh⟩ := nextMo_ok h
  obtain ⟨w, h0, l, x, y, bb, s⟩ := b
  have h1' := h1
  obtain ⟨w', h', e1, e2, w2, w3, w4, w5, hl, hk, p1, p2⟩ := okBe_iff.1 h1'
  simp only at hX hY e1 e2 hh
  subst e1 e2
  have hX' : 0 ≤ X ∧ X ≤ 79 := by omega
  have hY' : 0 ≤ Y ∧ Y ≤ 23 := by omega
  have len1 : ∀ c : Cmd, isCmd c = true → 1 ≤ lenC c := fun c hc => by unfold lenC putR'; rw [if_pos hc]; exact (bytesB_len hc).1
  rcases hh with ⟨rfl, e⟩ | ⟨rfl, H, e⟩
  · rw [e]
    obtain ⟨rfl, rfl, rfl⟩ := p2 rfl
    have hc := goC_ok hX' hY'
    refine ⟨hc, ?_, ?_, (moveC_ok hX' hY' (h := h') (y := 0) (.inl rfl)).2.2.1, Nat.le_refl _, len1 _ hc⟩
    · rw [doB_go h1 hc rfl]
      have := cur_go w' h' 0 0 false Y X
      unfold doBK
      rw [show goC X Y = (2, Y, X, 0) from rfl, this, inM_in (by omega) (by omega), inM_in (by omega) (by omega)]
      rfl
    · unfold touchB; rw [if_pos (fun z => by have := z.2.2; simp [chg, goC] at this)]
  · rw [e]
    obtain ⟨b1, b2, b3⟩ := H.best
    generalize bestM (movesM h' x y X Y) (goC X Y) = c at *
    obtain ⟨c1, c2, c3, c4, c5, c6, c7⟩ := moveC_ok hX' hY' b2
    obtain ⟨q1, q2, q3, q4, q5⟩ := p1 rfl
    obtain ⟨x, rfl⟩ := Int.eq_ofNat_of_zero_le q1
    obtain ⟨y, rfl⟩ := Int.eq_ofNat_of_zero_le q3
    refine ⟨c1, ?_, ?_, c3, ?_, len1 _ c1⟩
    · rw [doB_sure h1 c1 c2]
      obtain ⟨k1, k2, k3⟩ := leads_iff.1 b1
      unfold doBK
      rw [k1, k2, k3]
      simp only [Int.toNat_natCast]
      rw [moves_list (X := X) (Y := Y) (by omega) hX' hY' b2]
    · unfold touchB
      by_cases hg : chg c.1 = true
      · obtain ⟨rfl, hh⟩ := c4 hg
        rw [if_neg (fun z => z ⟨h1, c1, hg⟩), if_neg (fun z => by rcases z with z | z; cases z; simp only at z; omega), if_pos rfl]
      · rw [if_pos (fun z => hg z.2.2)]
    · have := b3 _ (.inl rfl); unfold lexle at this; omega
end Go.Proofs.YtgfmjmfphmjdkaaDoor
