/- Layer 28 (motion): the reference: the commands that may lead there, and which is told. No condition. -/
import Derived.Test.YtgfmjmfphmjdkaaGreatDoorQ3H4
import Derived.Test.YtgfmjmfphmjdkaaGreatDoorQ3H3
import Derived.Test.YtgfmjmfphmjdkaaGreatDoorQ3AW
import Derived.Test.YtgfmjmfphmjdkaaGreatDoorQ3ZX
namespace Go.Proofs.YtgfmjmfphmjdkaaGreatDoor
set_option linter.unusedSimpArgs false
set_option linter.unusedVariables false
set_option linter.unusedSectionVars false
set_option maxHeartbeats 4000000
open Go Go.RowKit
set_option maxRecDepth 100000
def upsN (k : Int) (m : Nat) : List Cmd := (List.range m).map fun (n : Nat) => (k, ((n : Int) + 1), 0, 0)
theorem upsN_succ (k : Int) (m : Nat) : upsN k (m + 1) = upsN k m ++ [(k, ((m + 1 : Nat) : Int), 0, 0)] := by
  unfold upsN; rw [List.range_succ, List.map_append]; rfl
def outL (X Y : Int) (j : Nat) : List Cmd := goC X Y :: ((List.range j).flatMap fun (i : Nat) => upsN ((i + 3 : Nat) : Int) 80)
theorem outL_succ (X Y : Int) (j : Nat) : outL X Y (j + 1) = outL X Y j ++ upsN ((j + 3 : Nat) : Int) 80 := by
  unfold outL; rw [List.range_succ, List.flatMap_append]; simp
theorem outL_4 (X Y : Int) : outL X Y 4 = goC X Y :: (upsL 3 ++ upsL 4 ++ upsL 5 ++ upsL 6) := by
  rw [outL_succ, outL_succ, outL_succ, outL_succ]
  show [goC X Y] ++ upsL 3 ++ upsL 4 ++ upsL 5 ++ upsL 6 = _
  simp
theorem outL_len (X Y : Int) (j : Nat) : (outL X Y j).length = 1 + j * 80 := by
  induction j with
  | zero => rfl
  | succ j ih => rw [outL_succ, List.length_append, ih]; simp [upsN]; omega
theorem upsN_len (k : Int) (m : Nat) : (upsN k m).length = m := by simp [upsN]
variable {T0 : Gh} [TabS T0]
attribute [local irreducible] thenA inBlockA AW AL AO QY varO rowO rsA Opd OpdN vA gvA tupA aggA slA slcA ipA rpA EqK LnK IxK LdK FaK FdK
theorem f_there (w h : Int) (l : List Guess) (x y : Int) (b s : Bool) (X Y : Int) : AP Tryz.prog T0 58 [belA w h l x y b s, I X, I Y] (B (isAt (w, h, l, x, y, b, s) X Y)) := by
  refine af_intro Tryz.func58 rfl (by decide) Tryz.ntmps58 rfl ?_
  repeat' (first
  | refine g6_ ?_ | (refine aw_if ?_ ?_ <;> intro hb <;> try exact no_) | (refine sx_ ?_ <;> intro bb) | (refine su_ ?_ <;> intro u hu1 hu2) | fail)
  exact ⟨_, [], rl_, List.nil_sublist _, Sub.refl _, rfl⟩
theorem f_bare (w h : Int) (l : List Guess) (x y : Int) (b s : Bool) (hs : sidesM w h = true) : AP Tryz.prog T0 113 [belA w h l x y b s] (blA (bareB (w, h, l, x, y, b, s))) := by
  have c1 : AP Tryz.prog T0 84 [I w, I h] (tupA [belA w h (List.replicate (w.toNat * h.toNat) gZero) 0 0 false false, I 0]) := (f_ref27New w h).to (by rw [newB, if_pos hs])
  show AP _ _ _ _ (belA w h (List.replicate (w.toNat * h.toNat) gZero) x y b s)
  generalize List.replicate (w.toNat * h.toNat) gZero = L at *
  refine af_intro Tryz.func113 rfl (by decide) Tryz.ntmps113 rfl ?_
  repeat' (first
  | refine g10_ ?_ | (refine aw_if ?_ ?_ <;> intro hb <;> try exact no_) | (refine sx_ ?_ <;> intro bb) | (refine su_ ?_ <;> intro u hu1 hu2) | fail)
  exact ⟨_, [], rl_, List.nil_sublist _, Sub.refl _, rfl⟩
theorem f_all (w h : Int) (l : List Guess) (x y : Int) (b s : Bool) (X Y : Int) (hh : -1000 ≤ h ∧ h ≤ 1000) : AP Tryz.prog T0 110 [belA w h l x y b s, I X, I Y] (slA cmdT (allL (s && decide (y < h - 1)) X Y)) := by
  refine AF.own (T := cmdT) (e := 35) ?_
  refine af_intro Tryz.func110 rfl (by decide) Tryz.ntmps110 rfl ?_
  repeat' (first
  | (refine w_build [(2, Y, X, 0)] ?_ rfl rfl rfl rfl un_ el_ rfl (by decide) ⟨_, px_, rfl⟩; intro u hu1 hu2) | refine g64_ ?_ | (refine aw_if ?_ ?_ <;> intro hb <;> try exact no_) | (refine sx_ ?_ <;> intro bb) | (refine su_ ?_ <;> intro u hu1 hu2) | fail)
  refine aw_la 7 (fun j : Nat => [(8, I ((j + 3 : Nat) : Int))]) (fun j => outL X Y j) (fun j => j ≤ 4) (fun j => 4 - j) 0 (Nat.zero_le _) rfl ?_
  rintro j u j1 hu1 hu2
  have hj := outL_len X Y j
  by_cases hlt : j < 4
  · have hsu := outL_succ X Y j
    generalize outL X Y j = L0 at *
    repeat' (first
    | (refine w_build [(2, Y, X, 0)] ?_ rfl rfl rfl rfl un_ el_ rfl (by decide) ⟨_, px_, rfl⟩; intro u hu1 hu2) | refine g64_ ?_ | (refine aw_if ?_ ?_ <;> intro hb <;> try exact no_) | (refine sx_ ?_ <;> intro bb) | (refine su_ ?_ <;> intro u hu1 hu2) | fail)
    all_goals first | exact e1_ | skip
    refine aw_la 7 (fun m : Nat => [(9, I ((m + 1 : Nat) : Int))]) (fun m => L0 ++ upsN ((j + 3 : Nat) : Int) m) (fun m => m ≤ 80) (fun m => 80 - m) 0 (Nat.zero_le _) ?_ ?_
    · simp [upsN]
    rintro m u m1 hu1 hu2
    have hm := upsN_len ((j + 3 : Nat) : Int) m
    have hms := upsN_succ ((j + 3 : Nat) : Int) m
    obtain ⟨L1, hL1⟩ : ∃ L1, L1 = upsN ((j + 3 : Nat) : Int) m := ⟨_, rfl⟩
    rw [← hL1] at hm hms ⊢
    by_cases hlt2 : m < 80
    · repeat' (first
      | (refine w_build [(2, Y, X, 0)] ?_ rfl rfl rfl rfl un_ el_ rfl (by decide) ⟨_, px_, rfl⟩; intro u hu1 hu2) | refine g64_ ?_ | (refine aw_if ?_ ?_ <;> intro hb <;> try exact no_) | (refine sx_ ?_ <;> intro bb) | (refine su_ ?_ <;> intro u hu1 hu2) | fail)
      all_goals first | exact e1_ | skip
      exact ⟨m + 1, _, by omega, by omega, wx_, by rw [hms, ← List.append_assoc]; exact List.Sublist.refl _⟩
    · obtain rfl : m = 80 := by omega
      repeat' (first
      | (refine w_build [(2, Y, X, 0)] ?_ rfl rfl rfl rfl un_ el_ rfl (by decide) ⟨_, px_, rfl⟩; intro u hu1 hu2) | refine g64_ ?_ | (refine aw_if ?_ ?_ <;> intro hb <;> try exact no_) | (refine sx_ ?_ <;> intro bb) | (refine su_ ?_ <;> intro u hu1 hu2) | fail)
      all_goals first | exact e1_ | skip
      exact ⟨j + 1, u, by omega, by omega, wx_, by rw [hsu, ← hL1]; exact List.Sublist.refl _⟩
  · obtain rfl : j = 4 := by omega
    have h4 := outL_4 X Y
    generalize outL X Y 4 = L0 at *
    repeat' (first
    | (refine w_build [(2, Y, X, 0)] ?_ rfl rfl rfl rfl un_ el_ rfl (by decide) ⟨_, px_, rfl⟩; intro u hu1 hu2) | refine g64_ ?_ | (refine aw_if ?_ ?_ <;> intro hb <;> try exact no_) | (refine sx_ ?_ <;> intro bb) | (refine su_ ?_ <;> intro u hu1 hu2) | fail)
    all_goals first | exact e1_ | skip
    · refine ⟨_, [rowO cmdT 35 u _], rl_, sl_, u, rfl, ?_⟩
      have e : (s && decide (y < h - 1)) = true := by simp [hb]
      rw [e, h4]; simp [allL]
    · refine ⟨_, [rowO cmdT 35 u _], rl_, sl_, u, rfl, ?_⟩
      have e : (s && decide (y < h - 1)) = false := by rcases hb with q | q <;> simp [q]
      rw [e, h4]; simp [allL]
theorem al_norm {P : Program} {N : Fz} {d : Bool} {Q : Post} {fr : Fr} {M : List Own} {a : Own} {ops : Array Oper} {l : List Oper} (h : AL P T0 N d ops Q l fr (a :: M)) : AL P T0 N d ops Q l fr ([a] ++ M) := h
theorem costM_one2 (c : Cmd) : costM [c] = lenC c := by simp [costM]
theorem f_ref28Next (w h : Int) (l : List Guess) (x y : Int) (b s : Bool) (X Y : Int) : AP Tryz.prog T0 57 [belA w h l x y b s, I X, I Y] (tupA [cmdA (nextMo (w, h, l, x, y, b, s) X Y).1, I (nextMo (w, h, l, x, y, b, s) X Y).2]) := by
  have ci := f_ref27Is (T0 := T0) w h l x y b s
  have ct0 := f_there (T0 := T0) w h l x y b s X Y
  have ctt : True := trivial
  have ca : True := trivial
  have cb : True := trivial
  have cv : True := trivial
  have cd : True := trivial
  by_cases hn : okBe w h l x y b s = true ∧ 0 ≤ X ∧ X < w ∧ 0 ≤ Y ∧ Y < h
  · obtain ⟨ho, h1, h2, h3, h4⟩ := hn
    rw [ho] at ci
    have hs : sidesM w h = true := by
      obtain ⟨w, h, rfl, rfl, w2, w3, w4, w5, _⟩ := okBe_iff.1 ho
      simp [sidesM]; omega
    have hs' : 2 ≤ w ∧ w ≤ 80 ∧ 1 ≤ h ∧ h ≤ 24 := by simpa [sidesM, and_assoc] using hs
    cases ht : isAt (w, h, l, x, y, b, s) X Y with
    | true =>
      rw [nextMo_here (b := (w, h, l, x, y, b, s)) ho ⟨h1, h2⟩ ⟨h3, h4⟩ ht]
      rw [ht] at ct0
      refine af_intro Tryz.func57 rfl (by decide) Tryz.ntmps57 rfl ?_
      repeat' (first
      | refine g61_ ?_ | (refine aw_if ?_ ?_ <;> intro hb <;> try exact no_) | (refine sx_ ?_ <;> intro bb) | (refine su_ ?_ <;> intro u hu1 hu2) | fail)
      all_goals first | (exfalso; simp at hb; done) | (exfalso; simp at hb; omega) | exact ⟨_, [], rl_, List.nil_sublist _, Sub.refl _, rfl⟩ | skip
    | false =>
      rw [← ref_choice (b := (w, h, l, x, y, b, s)) ho ⟨h1, h2⟩ ⟨h3, h4⟩ ht]
      rw [ht] at ct0
      have ctt := fun w h l x y b s => f_there (T0 := T0) w h l x y b s X Y
      have ca := f_all (T0 := T0) w h l x y b s X Y (by omega)
      have cb := f_bare (T0 := T0) w h l x y b s hs
      have hok2 := bare_ok (b := (w, h, l, x, y, b, s)) ho
      dsimp only
      have hLok : ∀ c ∈ allL (s && decide (y < h - 1)) X Y, isCmd c = true := fun c hc => allL_ok ⟨h1, by omega⟩ ⟨h3, by omega⟩ hc
      have hLen : (allL (s && decide (y < h - 1)) X Y).length ≤ 400 := by
        cases (s && decide (y < h - 1)) <;> simp [allL, upsL]
      have hp : ∀ c, ledB (w, h, l, x, y, b, s) X Y c = isAt (doB (bareB (w, h, l, x, y, b, s)) c).1 X Y := fun c => rfl
      have cdo := fun c => f_ref27Do (T0 := T0) w h (bareB (w, h, l, x, y, b, s)).2.2.1 x y b s c
      have cdo2 : ∀ c, isCmd c = true → AP Tryz.prog T0 112 [blA (bareB (w, h, l, x, y, b, s)), cmdA c] (tupA [blA (doB (bareB (w, h, l, x, y, b, s)) c).1, I 0]) := fun c hc => (cdo c).to (by rw [← doB_err hok2 hc]; rfl)
      clear cdo
      generalize bareB (w, h, l, x, y, b, s) = BB at *
      generalize allL (s && decide (y < h - 1)) X Y = L at *
      generalize ledB (w, h, l, x, y, b, s) X Y = p at *
      obtain ⟨st, hst⟩ : ∃ st : Nat → Cmd × Nat, st = fun k => (L.take k).foldl (refStep p) ((0, 0, 0, 0), 9) := ⟨_, rfl⟩
      have st0 : st 0 = ((0, 0, 0, 0), 9) := by rw [hst]; simp
      have stS : ∀ k c, L[k]? = some c → st (k + 1) = refStep p (st k) c := fun k c hk => by
        rw [hst]; simp only
        rw [List.take_add_one, hk, List.foldl_append]; rfl
      have stE : L.foldl (refStep p) ((0, 0, 0, 0), 9) = st L.length := by rw [hst]; simp
      rw [stE]
      clear hst stE
      obtain ⟨B1, B2, B3, B4, B5, B6, B7⟩ := BB
      refine af_intro Tryz.func57 rfl (by decide) Tryz.ntmps57 rfl ?_
      repeat' (first
      | refine g61_ ?_ | (refine aw_if ?_ ?_ <;> intro hb <;> try exact no_) | (refine sx_ ?_ <;> intro bb) | (refine su_ ?_ <;> intro u hu1 hu2) | fail)
      all_goals first | (exfalso; simp at hb; done) | (exfalso; simp at hb; omega) | skip
      refine aw_lv (d := fun k : Nat => [(9, I (st k).2), (11, I k)]) (g := fun k => [I (st k).1.1, I (st k).1.2.1, I (st k).1.2.2.1, R (st k).1.2.2.2]) (fun k => k ≤ L.length) (fun k => L.length - k) 0 (Nat.zero_le _) ?_ ?_ (hf0 := by simp only [st0]; exact wk_)
      · rw [st0]
      rintro k k1
      by_cases hlt : k < L.length
      · obtain ⟨⟨k', a', d', r'⟩, hat⟩ : ∃ z, L[k]? = some z := ⟨_, List.getElem?_eq_getElem hlt⟩
        have hok := hLok _ (List.mem_of_getElem? hat)
        have hS := stS k _ hat
        have he : (L.drop k).take (k + 1 - k) = [(k', a', d', r')] := by
          rw [show k + 1 - k = 1 by omega]
          obtain ⟨z1, z2⟩ := List.getElem?_eq_some_iff.1 hat
          rw [List.drop_eq_getElem_cons hlt, z2]; rfl
        have hlc := lenC_le (k', a', d', r')
        have cv : AP Tryz.prog T0 111 [slA cmdT ((L.drop k).take (k + 1 - k))] (I (lenC (k', a', d', r'))) := by
          rw [he]; exact (f_ref05Cost [(k', a', d', r')] (by simp)).to (by rw [costM_one2])
        have cd := cdo2 (k', a', d', r') hok
        have hpc := hp (k', a', d', r')
        generalize (doB (B1, B2, B3, B4, B5, B6, B7) (k', a', d', r')).1 = Z at *
        obtain ⟨Z1, Z2, Z3, Z4, Z5, Z6, Z7⟩ := Z
        obtain ⟨⟨⟨q1, q2, q3, q4⟩, n⟩, hz0⟩ : ∃ z, z = st k := ⟨_, rfl⟩
        rw [← hz0] at hS ⊢
        unfold refStep at hS
        rw [hpc] at hS
        by_cases hl : lenC (k', a', d', r') < n
        · by_cases hz : isAt (Z1, Z2, Z3, Z4, Z5, Z6, Z7) X Y = true
          · rw [if_pos ⟨hl, hz⟩] at hS
            repeat' (first
            | (with_reducible refine al_norm ?_) | (apply aw_regionF 10; (case hB => decide +kernel); (case hn => rfl); (case hg => decide +kernel); (case hm => kernel_rfl); (case hs => rfl)) | refine endF_ ?_ | (refine sf_alloc rfl rfl rfl rfl al_ ?_; intro bn) | (apply sf_store rfl rfl rfl; (case hx => exact oo_); (case hz => exact sz_); (case hy => exact oo_); (case hc => exact cam_); (case hl => rfl); (case h1 => exact ones_); (case hU => exact upf_); (case hs => exact setc_)) | (apply sf_y rfl rfl rfl; (case hy => exact y_)) | refine g62_ ?_ | (apply aw_region1q (by rfl) (by kernel_rfl) (by kernel_rfl)) | refine g63_ ?_ | (refine aw_if ?_ ?_ <;> intro hb <;> try exact no_) | (refine sx_ ?_ <;> intro bb) | (refine su_ ?_ <;> intro u hu1 hu2) | fail)
            all_goals first | (exfalso; omega) | (exfalso; simp [hz] at hb; done) | exact ⟨k + 1, by omega, by omega, by rw [hS]; exact wx_, by rw [hS]; exact sl_⟩ | skip
          · rw [if_neg (fun q => hz q.2)] at hS
            repeat' (first
            | (with_reducible refine al_norm ?_) | (apply aw_regionF 10; (case hB => decide +kernel); (case hn => rfl); (case hg => decide +kernel); (case hm => kernel_rfl); (case hs => rfl)) | refine endF_ ?_ | (refine sf_alloc rfl rfl rfl rfl al_ ?_; intro bn) | (apply sf_store rfl rfl rfl; (case hx => exact oo_); (case hz => exact sz_); (case hy => exact oo_); (case hc => exact cam_); (case hl => rfl); (case h1 => exact ones_); (case hU => exact upf_); (case hs => exact setc_)) | (apply sf_y rfl rfl rfl; (case hy => exact y_)) | refine g62_ ?_ | (apply aw_region1q (by rfl) (by kernel_rfl) (by kernel_rfl)) | refine g63_ ?_ | (refine aw_if ?_ ?_ <;> intro hb <;> try exact no_) | (refine sx_ ?_ <;> intro bb) | (refine su_ ?_ <;> intro u hu1 hu2) | fail)
            all_goals first | (exfalso; omega) | (exfalso; simp [hz] at hb; done) | exact ⟨k + 1, by omega, by omega, by rw [hS]; exact wx_, by rw [hS]; exact sl_⟩ | skip
        · rw [if_neg (fun q => hl q.1)] at hS
          repeat' (first
          | (with_reducible refine al_norm ?_) | (apply aw_regionF 10; (case hB => decide +kernel); (case hn => rfl); (case hg => decide +kernel); (case hm => kernel_rfl); (case hs => rfl)) | refine endF_ ?_ | (refine sf_alloc rfl rfl rfl rfl al_ ?_; intro bn) | (apply sf_store rfl rfl rfl; (case hx => exact oo_); (case hz => exact sz_); (case hy => exact oo_); (case hc => exact cam_); (case hl => rfl); (case h1 => exact ones_); (case hU => exact upf_); (case hs => exact setc_)) | (apply sf_y rfl rfl rfl; (case hy => exact y_)) | refine g62_ ?_ | (apply aw_region1q (by rfl) (by kernel_rfl) (by kernel_rfl)) | refine g63_ ?_ | (refine aw_if ?_ ?_ <;> intro hb <;> try exact no_) | (refine sx_ ?_ <;> intro bb) | (refine su_ ?_ <;> intro u hu1 hu2) | fail)
          all_goals first | (exfalso; omega) | exact ⟨k + 1, by omega, by omega, by rw [hS]; exact wx_, by rw [hS]; exact sl_⟩ | skip
      · obtain rfl : k = L.length := by omega
        generalize st L.length = z at *
        repeat' (first
        | refine g61_ ?_ | (refine aw_if ?_ ?_ <;> intro hb <;> try exact no_) | (refine sx_ ?_ <;> intro bb) | (refine su_ ?_ <;> intro u hu1 hu2) | fail)
        all_goals first | exact e1_ | skip
        exact ⟨_, [], rl_, List.nil_sublist _, Sub.refl _, rfl⟩
  · have e : nextMo (w, h, l, x, y, b, s) X Y = ((0, 0, 0, 0), 1) := by unfold nextMo; rw [if_pos hn]
    rw [e]
    generalize okBe w h l x y b s = ok at *
    refine af_intro Tryz.func57 rfl (by decide) Tryz.ntmps57 rfl ?_
    repeat' (first
    | refine g61_ ?_ | (refine aw_if ?_ ?_ <;> intro hb <;> try exact no_) | (refine sx_ ?_ <;> intro bb) | (refine su_ ?_ <;> intro u hu1 hu2) | fail)
    all_goals first | exact ⟨_, [], rl_, List.nil_sublist _, Sub.refl _, rfl⟩ | (exfalso; rename_i z; exact hn ⟨z.1.1.1.1, by omega, by omega, by omega, by omega⟩) | skip
end Go.Proofs.YtgfmjmfphmjdkaaGreatDoor
