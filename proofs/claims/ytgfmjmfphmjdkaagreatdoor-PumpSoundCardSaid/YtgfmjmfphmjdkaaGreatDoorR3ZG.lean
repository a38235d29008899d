/- Several texts in one: see the comment ahead of each. No condition. -/
import Derived.Test.YtgfmjmfphmjdkaaGreatDoorR3ZW
set_option linter.unusedSimpArgs false
set_option linter.unusedVariables false
set_option linter.unusedSectionVars false
namespace Go.Proofs.YtgfmjmfphmjdkaaGreatDoor
set_option maxHeartbeats 4000000
section
open Go Go.RowKit
set_option maxRecDepth 100000
def cAt (l : List zp) (i : Nat) : zp:=l[i]?.getD (0,0)
theorem zwk {l : List zp} {i : Nat} (h : i < l.length) : l[i]? = some (cAt l i):=by simp [cAt,h]
theorem zhm {a b : List zp} (hl : a.length = b.length) (h : ∀ i,i < a.length → cAt a i = cAt b i) : a = b:=by
 apply List.ext_getElem? ; intro i
 by_cases hi : i < a.length
 ·rw [zwk hi,zwk (l:=b) (by omega),h i hi]
 ·rw [List.getElem?_eq_none (by omega),List.getElem?_eq_none (by omega)]
theorem zkk (l : List zp) (a i : Nat) : cAt (l.drop a) i = cAt l (a + i):=by simp [cAt,List.getElem?_drop]
theorem zkh {l : List zp} {n i : Nat} (h : i < n) : cAt (l.take n) i = cAt l i:=by simp [cAt,List.getElem?_take,h]
theorem zki (l : List zp) (j i : Nat) (c : zp) (hj : j < l.length) : cAt (l.set j c) i = if i = j then c else cAt l i:=by
 unfold cAt; rw [List.getElem?_set]
 by_cases h : j = i
 ·subst h; simp [hj]
 ·simp [h,Ne.symm h]
theorem zb9 {n i : Nat} {c : zp} (h : i < n) : cAt (List.replicate n c) i = c:=by simp [cAt,List.getElem?_replicate,h]
theorem zkj {l c : List zp} {off i : Nat} (h : off + c.length ≤ l.length) : cAt (ovr l off c) i = if i < off then cAt l i else if i < off + c.length then cAt c (i - off) else cAt l i:=by
 unfold cAt ovr
 have h1 : (l.take off).length = off:=by rw [List.length_take]; omega
 by_cases h2 : i < off
 ·rw [if_pos h2,List.append_assoc,List.getElem?_append_left (by omega),List.getElem?_take,if_pos h2]
 ·rw [if_neg h2]
  by_cases h3 : i < off + c.length
  ·rw [if_pos h3,List.getElem?_append_left (by rw [List.length_append]; omega),List.getElem?_append_right (by omega),h1]
  ·rw [if_neg h3,List.getElem?_append_right (by rw [List.length_append]; omega),List.getElem?_drop,List.length_append,h1]
   congr 2; omega
theorem z43 {a b : List zp} {i : Nat} : cAt (a ++ b) i = if i < a.length then cAt a i else cAt b (i - a.length):=by
 unfold cAt
 split
 ·rename_i h; rw [List.getElem?_append_left h]
 ·rename_i h; rw [List.getElem?_append_right (by omega)]
def wy (w : Nat) (l : List zp) (i : Nat) : Bool :=
 if (cAt l i).2 = 1 then decide (i % w = w - 1) || !decide (cAt l (i + 1) = ((cAt l i).1,2)) else if (cAt l i).2 = 2 then decide (i % w = 0) || !decide (cAt l (i - 1) = ((cAt l i).1,1)) else false
def xl (w h : Int) : Bool:=decide (2 ≤ w) && decide (w ≤ 80) && decide (1 ≤ h) && decide (h ≤ 24)
def OkG (w h : Int) (l : List zp) : Prop:=(2 ≤ w ∧ w ≤ 80 ∧ 1 ≤ h ∧ h ≤ 24) ∧ (l.length : Int) = w * h ∧ ∀ i,i < l.length → xv (cAt l i) = true ∧ wy w.toNat l i = false
noncomputable instance (w h : Int) (l : List zp) : Decidable (OkG w h l):=Classical.propDecidable _
noncomputable def okG (w h : Int) (l : List zp) : Bool:=decide (OkG w h l)
def zjs (w : Nat) (l : List zp) : List zp:=(List.range l.length).map fun i=>if wy w l i then (32,0) else cAt l i
theorem wx (w : Nat) (l : List zp) : (zjs w l).length = l.length:=by simp [zjs]
theorem uv {w : Nat} {l : List zp} {i : Nat} (h : i < l.length) : cAt (zjs w l) i = if wy w l i then (32,0) else cAt l i:=by
 unfold zjs; rw [cAt,List.getElem?_map]; simp [h]
theorem ka : xv (32,0) = true:=by decide
def zyr : List zp → zp → Bool
 |[],want=>decide (want = (0,0))
 |c :: r,want=>xv c && !((!decide (want = (0,0))) != decide (c.2 = 2) || (!decide (want = (0,0))) && !decide (c = want)) && zyr r (if c.2 = 1 then (c.1,2) else (0,0))
def qcs (row : List zp) (want : zp) : Prop:=(∀ j,j < row.length → xv (cAt row j) = true ∧ ((cAt row j).2 = 1 → j + 1 < row.length ∧ cAt row (j + 1) = ((cAt row j).1,2)) ∧ ((cAt row j).2 = 2 → (j = 0 ∧ want = cAt row j) ∨ (1 ≤ j ∧ cAt row (j - 1) = ((cAt row j).1,1)))) ∧ (want ≠ (0,0) → 0 < row.length ∧ cAt row 0 = want)
theorem ui (c : zp) (r : List zp) : cAt (c :: r) 0 = c:=rfl
theorem vz (c : zp) (r : List zp) (j : Nat) : cAt (c :: r) (j + 1) = cAt r j:=by simp [cAt]
theorem zot : ∀ (row : List zp) (want : zp),(want = (0,0) ∨ want.2 = 2) → (zyr row want = true ↔ qcs row want)
 |[],want,_=>by
  simp only [zyr,decide_eq_true_eq,qcs,List.length_nil]
  constructor
  ·intro h; exact ⟨fun j hj=>absurd hj (by omega),fun hn=>absurd h hn⟩
  ·intro h
   by_cases hw : want = (0,0)
   ·exact hw
   ·have:=(h.2 hw).1; omega
 |c :: r,want,hw=>by
  have ih:=zot r (if c.2 = 1 then (c.1,2) else (0,0)) (by split <;> simp)
  simp only [zyr,Bool.and_eq_true,ih]
  have hwant : (!((!decide (want = (0,0))) != decide (c.2 = 2) || (!decide (want = (0,0))) && !decide (c = want))) = true ↔ (c.2 = 2 → want = c) ∧ (want ≠ (0,0) → c = want):=by
   by_cases h0 : want = (0,0)
   ·subst h0
    by_cases h2 : c.2 = 2
    ·simp [h2]; intro h; rw [← h] at h2; simp at h2
    ·simp [h2]
   ·by_cases h2 : c.2 = 2
    ·simp [h0,h2]; exact fun h=>h.symm
    ·simp [h0,h2]
     intro h; subst h
     rcases hw with h | h
     ·exact h0 h
     ·exact h2 h
  rw [hwant]
  constructor
  ·rintro ⟨⟨h1,h2,h3⟩,h4,h5⟩
   refine ⟨fun j hj => ?_,fun hn=>⟨by simp,by rw [ui]; exact h3 hn⟩⟩
   cases j with
   |zero =>
    rw [ui]
    refine ⟨h1,fun hk => ?_,fun hk=>.inl ⟨rfl,h2 hk⟩⟩
    rw [if_pos hk] at h5
    have:=h5 (by simp)
    rw [vz]
    exact ⟨by simp; omega,this.2⟩
   |succ j =>
    rw [vz]
    have hj' : j < r.length:=by simpa using hj
    obtain ⟨a1,a2,a3⟩:=h4 j hj'
    refine ⟨a1,fun hk => ?_,fun hk=>.inr ⟨by omega, ?_⟩⟩
    ·have:=a2 hk
     rw [vz]; exact ⟨by simp; omega,this.2⟩
    ·rw [Nat.add_sub_cancel]
     rcases a3 hk with ⟨rfl,h⟩ | ⟨h6,h7⟩
     ·rw [ui]
      by_cases hc : c.2 = 1
      ·rw [if_pos hc] at h
       rw [← h]; exact Prod.ext rfl hc
      ·rw [if_neg hc] at h
       rw [← h] at hk; simp at hk
     ·obtain ⟨j,rfl⟩ : ∃ k,j = k + 1:=⟨j - 1,by omega⟩
      rw [vz]; simpa using h7
  ·rintro ⟨h1,h2⟩
   have h0:=h1 0 (by simp)
   rw [ui] at h0
   refine ⟨⟨h0.1,fun hk => ?_,fun hn=>by have:=(h2 hn).2; rwa [ui] at this⟩,fun j hj => ?_,fun hn => ?_⟩
   ·rcases h0.2.2 hk with ⟨_,h⟩ | ⟨h,_⟩
    ·exact h
    ·omega
   ·have hj1:=h1 (j + 1) (by simpa using hj)
    rw [vz] at hj1
    obtain ⟨a1,a2,a3⟩:=hj1
    refine ⟨a1,fun hk => ?_,fun hk => ?_⟩
    ·have:=a2 hk
     rw [vz] at this; exact ⟨by have:=this.1; simp at this; omega,this.2⟩
    ·rcases a3 hk with ⟨h,_⟩ | ⟨_,h⟩
     ·omega
     ·rw [Nat.add_sub_cancel] at h
      cases j with
      |zero =>
       left; rw [ui] at h
       have hc : c.2 = 1:=by rw [h]
       rw [if_pos hc]
       refine ⟨rfl,Prod.ext ?_ hk.symm⟩
       rw [h]
      |succ j=>right; rw [vz] at h; exact ⟨by omega,by rw [Nat.add_sub_cancel]; exact h⟩
   ·by_cases hc : c.2 = 1
    ·rw [if_pos hc]
     have:=h0.2.1 hc
     rw [vz] at this
     exact ⟨by have:=this.1; simp at this; omega,this.2⟩
    ·rw [if_neg hc] at hn; exact absurd rfl hn
def zm8 (row : List zp) : Bool:=zyr row (0,0)
theorem zld (row : List zp) : zm8 row = true ↔ ∀ j,j < row.length → xv (cAt row j) = true ∧ ((cAt row j).2 = 1 → j + 1 < row.length ∧ cAt row (j + 1) = ((cAt row j).1,2)) ∧ ((cAt row j).2 = 2 → 1 ≤ j ∧ cAt row (j - 1) = ((cAt row j).1,1)):=by
 rw [zm8,zot row (0,0) (.inl rfl)]
 constructor
 ·rintro ⟨h,_⟩ j hj
  obtain ⟨a,b,c⟩:=h j hj
  refine ⟨a,b,fun hk => ?_⟩
  rcases c hk with ⟨_,e⟩ | e
  ·rw [← e] at hk; simp at hk
  ·exact e
 ·intro h
  refine ⟨fun j hj => ?_,fun hn=>absurd rfl hn⟩
  obtain ⟨a,b,c⟩:=h j hj
  exact ⟨a,b,fun hk=>.inr (c hk)⟩
theorem zq {w : Nat} {l : List zp} {i : Nat} : wy w l i = false ↔ ((cAt l i).2 = 1 → i % w ≠ w - 1 ∧ cAt l (i + 1) = ((cAt l i).1,2)) ∧ ((cAt l i).2 = 2 → i % w ≠ 0 ∧ cAt l (i - 1) = ((cAt l i).1,1)):=by
 unfold wy
 by_cases h1 : (cAt l i).2 = 1
 ·simp [h1]
 ·by_cases h2 : (cAt l i).2 = 2
  ·simp [h2]
  ·simp [h1,h2]
theorem z3a (w h : Nat) (l : List zp) (hw : 2 ≤ w) (hl : l.length = w * h) : (∀ y,y < h → zm8 ((l.drop (y * w)).take ((y + 1) * w - y * w)) = true) ↔ ∀ i,i < l.length → xv (cAt l i) = true ∧ wy w l i = false:=by
 have hlen : ∀ y,y < h → ((l.drop (y * w)).take ((y + 1) * w - y * w)).length = w:=fun y hy=>by
  have h1 : (y + 1) * w ≤ h * w:=Nat.mul_le_mul_right _ hy
  have h2 : (y + 1) * w = y * w + w:=by rw [Nat.add_mul,Nat.one_mul]
  rw [List.length_take,List.length_drop,hl,Nat.mul_comm w h]; omega
 have hat : ∀ y x,x < w → cAt ((l.drop (y * w)).take ((y + 1) * w - y * w)) x = cAt l (y * w + x):=fun y x hx=>by
  have h2 : (y + 1) * w = y * w + w:=by rw [Nat.add_mul,Nat.one_mul]
  rw [zkh (by omega),zkk]
 constructor
 ·intro H i hi
  have hy : i / w < h:=by rw [Nat.div_lt_iff_lt_mul (by omega),Nat.mul_comm]; omega
  have hx : i % w < w:=Nat.mod_lt _ (by omega)
  have hd : i / w * w + i % w = i:=by rw [Nat.mul_comm]; exact Nat.div_add_mod i w
  obtain ⟨a,b,c⟩:=(zld _).1 (H (i / w) hy) (i % w) (by rw [hlen _ hy]; exact hx)
  rw [hat _ _ hx,hd] at a b c
  rw [hlen _ hy] at b
  refine ⟨a,zq.2 ⟨fun hk => ?_,fun hk => ?_⟩⟩
  ·obtain ⟨b1,b2⟩:=b hk
   rw [hat _ _ b1,← Nat.add_assoc,hd] at b2
   exact ⟨by omega,b2⟩
  ·obtain ⟨c1,c2⟩:=c hk
   rw [hat _ _ (by omega),show i / w * w + (i % w - 1) = i - 1 by omega] at c2
   exact ⟨by omega,c2⟩
 ·intro H y hy
  rw [zld]
  intro x hx
  rw [hlen y hy] at hx ⊢
  have hi : y * w + x < l.length:=by
   have h1 : (y + 1) * w ≤ h * w:=Nat.mul_le_mul_right _ hy
   rw [Nat.add_mul,Nat.one_mul] at h1
   rw [hl,Nat.mul_comm w h]; omega
  have hm : (y * w + x) % w = x:=by rw [Nat.add_comm,Nat.add_mul_mod_self_right,Nat.mod_eq_of_lt hx]
  obtain ⟨a,b⟩:=H _ hi
  obtain ⟨b1,b2⟩:=zq.1 b
  rw [hat y x hx]
  rw [hm] at b1 b2
  refine ⟨a,fun hk => ?_,fun hk => ?_⟩
  ·obtain ⟨c1,c2⟩:=b1 hk
   have hx1 : x + 1 < w:=by omega
   exact ⟨hx1,by rw [hat y _ hx1,← Nat.add_assoc]; exact c2⟩
  ·obtain ⟨c1,c2⟩:=b2 hk
   exact ⟨by omega,by rw [hat y _ (by omega),show y * w + (x - 1) = y * w + x - 1 by omega]; exact c2⟩
theorem zjc : Sub (vA (.slice none 0 0)) (slA qs []):=fun _ _ h=>by
 rw [h.eq]; exact .of ⟨none,0,0,rfl,rfl,Nat.le_refl _,Nat.zero_le _,fun _=>rfl,fun h=>absurd rfl h⟩
theorem zja {n : Int} : Sub (zy [qb [I 0,I 0,vA (.slice none 0 0)],I n]) (zy [xx 0 0 [],I n]):=wa (qu (un (qu (Sub.refl _) (qu (Sub.refl _) (qu zjc y4)))) (qu (Sub.refl _) y4))
end
section
open Go Go.RowKit
variable {T0 : Gh} [TabS T0]
attribute [local irreducible] zz zg AW AL AO QY qh z_ rsA Opd xh vA gvA zy qb slA jl ipA rpA EqK LnK IxK LdK FaK FdK
set_option maxRecDepth 100000
theorem zyl (p : List zp) (n k : Nat) (z d : zp) (hp : p.length = k) (h : k < n) : (p ++ List.replicate (n - k) d).set k z = (p ++ [z]) ++ List.replicate (n - (k + 1)) d:=by
 have e : n - k = (n - (k + 1)) + 1:=by omega
 subst hp
 rw [e,List.replicate_succ,List.set_append_right _ _ (Nat.le_refl _),Nat.sub_self,List.set_cons_zero,List.append_assoc]; rfl
theorem zj8 : AP Tryz.prog T0 143 [] (zh6 (32,0)):=by
 refine za Tryz.func143 rfl (by decide) Tryz.ntmps143 rfl ?_
 repeat' (first
 |refine g2_ ?_ | (refine zd ?_ ?_ <;> intro hb <;> try exact no_) | (refine sx_ ?_ <;> intro bb) | (refine su_ ?_ <;> intro u hu1 hu2) | fail)
 exact ⟨_,[],rs_,List.nil_sublist _,Sub.refl _,rfl⟩
theorem zpv (w h : Nat) (hb : w * h ≤ 100000) : AF Tryz.prog T0 155 [I w,I h] [] (fun A M' => ∃ u,A = qb [I w,I h,vA u] ∧ M' = [z_ qs 87 u (List.replicate (w * h) (32,0))]):=by
 have hnn : (0 : Int) ≤ ((w * h : Nat) : Int):=Int.natCast_nonneg _
 refine za Tryz.func155 rfl (by decide) Tryz.ntmps155 rfl ?_
 repeat' (first
 |refine z51 ?_ | (refine zd ?_ ?_ <;> intro hb <;> try exact no_) | (refine sx_ ?_ <;> intro bb) | (refine su_ ?_ <;> intro u hu1 hu2) | fail)
 simp only [List.length_replicate]
 refine zw4 (fun k : Nat=>[(0,I w),(1,I h),(4,vA (.pointer (some ⟨bb,0,none⟩))),(5,vA u),(12,I (w * h : Nat)),(13,I k)]) (fun k=>[z_ qs 87 u (List.replicate k (32,0) ++ List.replicate (w * h - k) (0,0)),qh bb 27 [I 0,I 0,vA (.slice none 0 0)]]) (fun k=>k ≤ w * h) (fun k=>w * h - k) 0 (Nat.zero_le _) wk_ rfl ?_
 rintro k h1
 by_cases hlt : k < w * h
 ·repeat' (first
  |refine z51 ?_ | (refine zd ?_ ?_ <;> intro hb <;> try exact no_) | (refine sx_ ?_ <;> intro bb) | (refine su_ ?_ <;> intro u hu1 hu2) | fail)
  refine ⟨k + 1,by omega,by omega,wk_, ?_⟩
  rw [zyl _ _ _ _ _ (by simp) hlt,List.replicate_succ']
 ·repeat' (first
  |refine z51 ?_ | (refine zd ?_ ?_ <;> intro hb <;> try exact no_) | (refine sx_ ?_ <;> intro bb) | (refine su_ ?_ <;> intro u hu1 hu2) | fail)
  refine ⟨_,_,rs_,(List.Sublist.cons_cons _ (List.nil_sublist _)),u,rfl, ?_⟩
  rw [show w * h - k = 0 by omega,show k = w * h by omega,List.replicate_zero,List.append_nil]
theorem z7u (w h : Int) (l : List zp) (hl : l.length ≤ 100000) : AF Tryz.prog T0 162 [xx w h l] [] (fun A M' => ∃ u,A = qb [I w,I h,vA u] ∧ M' = [z_ qs 87 u l]):=by
 refine za Tryz.func162 rfl (by decide) Tryz.ntmps162 rfl ?_
 repeat' (first
 |refine z51 ?_ | (refine zd ?_ ?_ <;> intro hb <;> try exact no_) | (refine sx_ ?_ <;> intro bb) | (refine su_ ?_ <;> intro u hu1 hu2) | fail)
 refine ⟨_,_,rs_,(List.Sublist.cons_cons _ (List.nil_sublist _)),u,rfl, ?_⟩
 rw [List.length_replicate,List.take_length,show ovr (List.replicate l.length ((0,0) : zp)) 0 l = l by simp [ovr]]
def ze0 (w h : Int) : (Int × Int × List zp) × Int:=if xl w h then ((w,h,List.replicate (w.toNat * h.toNat) (32,0)),0) else ((0,0,[]),4)
def zbr (x : (Int × Int × List zp) × Int) : AV:=zy [xx x.1.1 x.1.2.1 x.1.2.2,I x.2]
theorem vl {w h : Nat} (hw : w ≤ 80) (hh : h ≤ 24) : w * h ≤ 1920:=Nat.mul_le_mul hw hh
theorem wt {w h : Int} (hs : xl w h = true) : ∃ w' h' : Nat,w = w' ∧ h = h' ∧ 2 ≤ w' ∧ w' ≤ 80 ∧ 1 ≤ h' ∧ h' ≤ 24:=by
 simp [xl] at hs
 exact ⟨w.toNat,h.toNat,by omega,by omega,by omega,by omega,by omega,by omega⟩
theorem z15 (w h : Nat) (h1 : 2 ≤ w) (h2 : w ≤ 80) (h3 : 1 ≤ h) (h4 : h ≤ 24) : AF Tryz.prog T0 114 [I w,I h] [] (fun A M' => ∃ u,A = zy [qb [I w,I h,vA u],I 0] ∧ M' = [z_ qs 87 u (List.replicate (w * h) (32,0))]):=by
 have hb:=vl h2 h4
 refine za Tryz.func114 rfl (by decide) Tryz.ntmps114 rfl ?_
 repeat' (first
 |(refine zt rfl rfl rfl rfl os_ (zpv _ _ (by omega)) ?_; rintro _ _ ⟨u,rfl,rfl⟩; refine qq (List.Mem.head _) fun hu1 hu2 => ?_) | refine g2_ ?_ | (refine zd ?_ ?_ <;> intro hb <;> try exact no_) | (refine sx_ ?_ <;> intro bb) | (refine su_ ?_ <;> intro u hu1 hu2) | fail)
 exact ⟨_,_,rs_,sl_,u,rfl,rfl⟩
theorem znw (w h : Int) : AP Tryz.prog T0 114 [I w,I h] (zbr (ze0 w h)):=by
 by_cases hs : xl w h = true
 ·obtain ⟨w,h,rfl,rfl,h1,h2,h3,h4⟩:=wt hs
  have:=(z15 (T0:=T0) w h h1 h2 h3 h4).frz1 zrc
  simpa only [ze0,hs,if_true,zbr,Int.toNat_natCast] using this
 ·have hs' : ¬ (2 ≤ w ∧ w ≤ 80 ∧ 1 ≤ h ∧ h ≤ 24):=by simpa [xl,and_assoc] using hs
  refine za Tryz.func114 rfl (by decide) Tryz.ntmps114 rfl ?_
  repeat' (first
  |(refine zt rfl rfl rfl rfl os_ (zpv _ _ (by omega)) ?_; rintro _ _ ⟨u,rfl,rfl⟩; refine qq (List.Mem.head _) fun hu1 hu2 => ?_) | refine g2_ ?_ | (refine zd ?_ ?_ <;> intro hb <;> try exact no_) | (refine sx_ ?_ <;> intro bb) | (refine su_ ?_ <;> intro u hu1 hu2) | fail)
  refine ⟨_,[],rs_,List.nil_sublist _, ?_,rfl⟩
  simp only [ze0,hs,zbr]; exact zja
end
section
open Go Go.RowKit
variable {T0 : Gh} [TabS T0]
attribute [local irreducible] zz zg AW AL AO QY qh z_ rsA Opd xh vA gvA zy qb slA jl ipA rpA EqK LnK IxK LdK FaK FdK
set_option maxRecDepth 100000
theorem zth (row : List zp) (i : Nat) (h : i < row.length) (want : zp) : zyr (row.drop i) want = (xv (cAt row i) && !((!decide (want = (0,0))) != decide ((cAt row i).2 = 2) || (!decide (want = (0,0))) && !decide (cAt row i = want)) && zyr (row.drop (i + 1)) (if (cAt row i).2 = 1 then ((cAt row i).1,2) else (0,0))):=by
 have e : row.drop i = cAt row i :: row.drop (i + 1):=by
  rw [List.drop_eq_getElem_cons h]; congr 1; simp [cAt,h]
 rw [e,zyr]
theorem zvh (row : List zp) (hl : row.length ≤ 100000) : AP Tryz.prog T0 142 [slA qs row] (B (zm8 row)):=by
 refine za Tryz.func142 rfl (by decide) Tryz.ntmps142 rfl ?_
 repeat' (first
 |refine z_8 ?_ | (refine zd ?_ ?_ <;> intro hb <;> try exact no_) | (refine sx_ ?_ <;> intro bb) | (refine su_ ?_ <;> intro u hu1 hu2) | fail)
 refine z2n (fun (k : Nat) (want : zp)=>[(3,vA (.pointer (some ⟨bb,0,none⟩))),(8,slA qs row),(9,I row.length),(10,I k)]) (fun k want=>[qh bb 87 [R want.1,I want.2]]) (fun k want=>k ≤ row.length ∧ zm8 row = zyr (row.drop k) want) (fun k _=>row.length - k) 0 (0,0) ⟨Nat.zero_le _,rfl⟩ wk_ sl_ ?_
 rintro k ⟨w1,w2⟩ ⟨h1,h2⟩
 by_cases hlt : k < row.length
 ·have hst:=zth row k hlt (w1,w2)
  rw [← h2] at hst
  have hat:=zwk hlt
  generalize cAt row k = c at *
  obtain ⟨c1,c2⟩:=c
  repeat' (first
  |refine z_8 ?_ | (refine zd ?_ ?_ <;> intro hb <;> try exact no_) | (refine sx_ ?_ <;> intro bb) | (refine su_ ?_ <;> intro u hu1 hu2) | fail)
  ·refine ⟨_,[],rs_,List.nil_sublist _,Sub.eq (congrArg B ?_),rfl⟩
   rw [eq_comm,hst]; simp_all
  ·refine ⟨_,[],rs_,List.nil_sublist _,Sub.eq (congrArg B ?_),rfl⟩
   rw [eq_comm,hst,Bool.and_eq_false_iff,Bool.and_eq_false_iff]
   left; right
   simp only [Bool.not_eq_false',Bool.or_eq_true]
   simp only [bne_iff_ne,ne_eq,Bool.and_eq_true,Bool.not_eq_true',decide_eq_false_iff_not,beq_eq_false_iff_ne,Bool.not_eq_true] at hb ⊢
   exact hb
  ·refine ⟨k + 1,(c1,2),⟨by omega, ?_⟩,by omega,wk_,sl_⟩
   rw [hst]; simp_all
  ·refine ⟨k + 1,(0,0),⟨by omega, ?_⟩,by omega,wk_,sl_⟩
   rename_i e1 _ e2
   have m : (!((!decide ((w1,w2) = ((0,0) : zp))) != decide ((c1,c2).2 = 2) || (!decide ((w1,w2) = ((0,0) : zp))) && !decide ((c1,c2) = (w1,w2)))) = true:=by
    clear hst h2 e1 hat
    by_cases a : (w1,w2) = ((0,0) : zp) <;> by_cases b : c2 = 2 <;> by_cases d : (c1,c2) = (w1,w2) <;> simp_all
    all_goals omega
   rw [hst,m,if_neg hb]; simp_all
 ·repeat' (first
  |refine z_8 ?_ | (refine zd ?_ ?_ <;> intro hb <;> try exact no_) | (refine sx_ ?_ <;> intro bb) | (refine su_ ?_ <;> intro u hu1 hu2) | fail)
  refine ⟨_,[],rs_,List.nil_sublist _,Sub.eq (congrArg B ?_),rfl⟩
  rw [h2,List.drop_of_length_le (by omega)]; rfl
theorem zvy (w h : Int) (l : List zp) : AP Tryz.prog T0 104 [xx w h l] (B (okG w h l)):=by
 by_cases hs : xl w h = true
 ·obtain ⟨w,h,rfl,rfl,h1,h2,h3,h4⟩:=wt hs
  have hb:=vl h2 h4
  have hnn : (0 : Int) ≤ ((w * h : Nat) : Int):=Int.natCast_nonneg _
  by_cases hlen : l.length = w * h
  ·have hl : l.length ≤ 3000:=by omega
   have hro:=z3a w h l h1 hlen
   have hok : okG w h l = true ↔ ∀ y,y < h → zm8 ((l.drop (y * w)).take ((y + 1) * w - y * w)) = true:=by
    rw [hro,okG,decide_eq_true_eq,OkG]
    constructor
    ·rintro ⟨_,_,k⟩; simpa using k
    ·intro k; exact ⟨by omega,by rw [hlen]; simp,by simpa using k⟩
   refine za Tryz.func104 rfl (by decide) Tryz.ntmps104 rfl ?_
   repeat' (first
   |refine z7n ?_ | (refine zd ?_ ?_ <;> intro hb <;> try exact no_) | (refine sx_ ?_ <;> intro bb) | (refine su_ ?_ <;> intro u hu1 hu2) | fail)
   all_goals first | exact e1_ | skip
   refine ze6 (fun y : Nat=>[(1,vA (.pointer (some ⟨bb,0,none⟩))),(34,I h),(35,I y)]) (fun _=>[qh bb 27 [I w,I h,slA qs l]]) (fun y=>y ≤ h ∧ ∀ y',y' < y → zm8 ((l.drop (y' * w)).take ((y' + 1) * w - y' * w)) = true) (fun y=>h - y) 0 ⟨Nat.zero_le _,fun _ k=>absurd k (Nat.not_lt_zero _)⟩ wk_ sl_ ?_
   rintro y ⟨i1,i2⟩
   by_cases hlt : y < h
   ·have m1 : (y + 1) * w = y * w + w:=by rw [Nat.add_mul,Nat.one_mul]
    have m2 : (y + 1) * w ≤ l.length:=by rw [hlen,Nat.mul_comm w h]; exact Nat.mul_le_mul_right _ hlt
    have m3 : (0 : Int) ≤ ((y * w : Nat) : Int):=Int.natCast_nonneg _
    have m4 : (0 : Int) ≤ (((y + 1) * w : Nat) : Int):=Int.natCast_nonneg _
    repeat' (first
    |refine z7n ?_ | (refine zd ?_ ?_ <;> intro hb <;> try exact no_) | (refine sx_ ?_ <;> intro bb) | (refine su_ ?_ <;> intro u hu1 hu2) | fail)
    ·refine ⟨_,[],rs_,List.nil_sublist _,Sub.eq (congrArg B ?_),rfl⟩
     rw [eq_comm,← Bool.not_eq_true,hok]
     intro k; rw [k y hlt] at hb; cases hb
    ·refine ⟨y + 1,⟨by omega,fun y' hy => ?_⟩,by omega,wk_,sl_⟩
     by_cases e : y' = y
     ·subst e; exact hb
     ·exact i2 y' (by omega)
   ·repeat' (first
    |refine z7n ?_ | (refine zd ?_ ?_ <;> intro hb <;> try exact no_) | (refine sx_ ?_ <;> intro bb) | (refine su_ ?_ <;> intro u hu1 hu2) | fail)
    refine ⟨_,[],rs_,List.nil_sublist _,Sub.eq (congrArg B ?_),rfl⟩
    exact (hok.2 fun y' hy=>i2 y' (by omega)).symm
  ·have hok : okG w h l = false:=by
    rw [okG,decide_eq_false_iff_not]; rintro ⟨_,k,_⟩; exact hlen (by rw [← Int.natCast_mul] at k; omega)
   rw [hok]
   refine za Tryz.func104 rfl (by decide) Tryz.ntmps104 rfl ?_
   repeat' (first
   |refine z7n ?_ | (refine zd ?_ ?_ <;> intro hb <;> try exact no_) | (refine sx_ ?_ <;> intro bb) | (refine su_ ?_ <;> intro u hu1 hu2) | fail)
   all_goals first | exact ⟨_,[],rs_,List.nil_sublist _,Sub.refl _,rfl⟩ | (exfalso; omega)
 ·have hs' : ¬ (2 ≤ w ∧ w ≤ 80 ∧ 1 ≤ h ∧ h ≤ 24):=by simpa [xl,and_assoc] using hs
  have hok : okG w h l = false:=by
   rw [okG,decide_eq_false_iff_not]; rintro ⟨k,_,_⟩; exact hs' k
  rw [hok]
  refine za Tryz.func104 rfl (by decide) Tryz.ntmps104 rfl ?_
  repeat' (first
  |refine z7n ?_ | (refine zd ?_ ?_ <;> intro hb <;> try exact no_) | (refine sx_ ?_ <;> intro bb) | (refine su_ ?_ <;> intro u hu1 hu2) | fail)
  all_goals first | exact ⟨_,[],rs_,List.nil_sublist _,Sub.refl _,rfl⟩ | (exfalso; omega)
theorem zvz (w h : Int) (l : List zp) (hl : l.length ≤ 3000) : AP Tryz.prog T0 104 [xx w h l] (B (okG w h l)):=zvy w h l
theorem x9 {w h : Int} {l : List zp} (hs : okG w h l = true) : ∃ w' h' : Nat,w = w' ∧ h = h' ∧ 2 ≤ w' ∧ w' ≤ 80 ∧ 1 ≤ h' ∧ h' ≤ 24 ∧ l.length = w' * h' ∧ ∀ i,i < l.length → xv (cAt l i) = true ∧ wy w' l i = false:=by
 obtain ⟨⟨a,b,c,d⟩,e,f⟩:=of_decide_eq_true hs
 obtain ⟨w',rfl⟩:=Int.eq_ofNat_of_zero_le (show 0 ≤ w by omega)
 obtain ⟨h',rfl⟩:=Int.eq_ofNat_of_zero_le (show 0 ≤ h by omega)
 exact ⟨w',h',rfl,rfl,by omega,by omega,by omega,by omega,by rw [← Int.natCast_mul] at e; omega,by simpa using f⟩
theorem zbi {w h x y : Nat} (hx : x < w) (hy : y < h) : y * w + x < w * h:=by
 have h1 : (y + 1) * w ≤ h * w:=Nat.mul_le_mul_right _ hy
 rw [Nat.add_mul,Nat.one_mul,Nat.mul_comm h w] at h1; omega
noncomputable def atR (w h : Int) (l : List zp) (x y : Int) : zp × Int:=if okG w h l = true ∧ 0 ≤ x ∧ x < w ∧ 0 ≤ y ∧ y < h then (cAt l (y.toNat * w.toNat + x.toNat),0) else ((0,0),1)
def at2 (x : zp × Int) : AV:=zy [zh6 x.1,I x.2]
theorem qbd (w h : Int) (l : List zp) (hl : l.length ≤ 3000) (x y : Int) : AP Tryz.prog T0 161 [xx w h l,I x,I y] (at2 (atR w h l x y)):=by
 by_cases hc : okG w h l = true ∧ 0 ≤ x ∧ x < w ∧ 0 ≤ y ∧ y < h
 ·have hc':=hc
  obtain ⟨hok,x1,x2,y1,y2⟩:=hc
  obtain ⟨w,h,rfl,rfl,h1,h2,h3,h4,hlen,_⟩:=x9 hok
  obtain ⟨x,rfl⟩:=Int.eq_ofNat_of_zero_le x1
  obtain ⟨y,rfl⟩:=Int.eq_ofNat_of_zero_le y1
  have hp:=zbi (show x < w by omega) (show y < h by omega)
  have hb:=vl h2 h4
  have m3 : (0 : Int) ≤ ((y * w : Nat) : Int):=Int.natCast_nonneg _
  have hat:=zwk (l:=l) (i:=y * w + x) (by omega)
  have cf : AP Tryz.prog T0 104 [xx w h l] (B true):=hok ▸ zvz w h l hl
  refine za Tryz.func161 rfl (by decide) Tryz.ntmps161 rfl ?_
  repeat' (first
  |refine qbc ?_ | (refine zd ?_ ?_ <;> intro hb <;> try exact no_) | (refine sx_ ?_ <;> intro bb) | (refine su_ ?_ <;> intro u hu1 hu2) | fail)
  all_goals first | (exfalso; simp [hok] at hb; omega) | skip
  refine ⟨_,[],rs_,List.nil_sublist _,Sub.eq ?_,rfl⟩
  simp only [at2,atR,if_pos hc',Int.toNat_natCast]; rfl
 ·refine za Tryz.func161 rfl (by decide) Tryz.ntmps161 rfl ?_
  repeat' (first
  |refine qbc ?_ | (refine zd ?_ ?_ <;> intro hb <;> try exact no_) | (refine sx_ ?_ <;> intro bb) | (refine su_ ?_ <;> intro u hu1 hu2) | fail)
  all_goals first | (exfalso; exact hc ⟨by simp_all,by omega,by omega,by omega,by omega⟩) | skip
  refine ⟨_,[],rs_,List.nil_sublist _,Sub.eq ?_,rfl⟩
  simp only [at2,atR,if_neg hc]; rfl
end
section
open Go Go.RowKit
variable {T0 : Gh} [TabS T0]
attribute [local irreducible] zz zg AW AL AO QY qh z_ rsA Opd xh vA gvA zy qb slA jl ipA rpA EqK LnK IxK LdK FaK FdK
set_option maxRecDepth 100000
def zbq (l : List zp) (at_ : Nat) (cs : List zp) : List zp :=
 if cs = [] then l else
  let l1:=if (cAt l at_).2 = 2 then l.set (at_ - 1) (32,0) else l
  let l2:=if (cAt l1 (at_ + cs.length - 1)).2 = 1 then l1.set (at_ + cs.length) (32,0) else l1
  ovr l2 at_ cs
theorem zpa {l : List zp} {a : Nat} {cs : List zp} (h : a + cs.length ≤ l.length) : (zbq l a cs).length = l.length:=by
 unfold zbq
 split
 ·rfl
 ·simp only
  have e : ∀ (c : Prop) [Decidable c] (m : List zp) (j : Nat),(if c then m.set j (32,0) else m).length = m.length:=fun c _ m j=>by split <;> simp
  rw [j7 (by rw [e,e]; exact h),e,e]
theorem qab (u : Value) (l : List zp) (a : Nat) (cs : List zp) (hl : l.length ≤ 100000) (h : a + cs.length ≤ l.length)
  (hA : cs ≠ [] → (cAt l a).2 = 2 → 1 ≤ a) (hB : cs ≠ [] → (cAt l (a + cs.length - 1)).2 = 1 → a + cs.length < l.length) :
  AF Tryz.prog T0 163 [vA u,I a,slA qs cs] [z_ qs 87 u l] (fun _ M'=>M' = [z_ qs 87 u (zbq l a cs)]):=by
 by_cases hcs : cs = []
 ·have h0 : cs.length = 0:=by rw [hcs]; rfl
  refine za Tryz.func163 rfl (by decide) Tryz.ntmps163 rfl ?_
  repeat' (first
  |refine z51 ?_ | (refine zd ?_ ?_ <;> intro hb <;> try exact no_) | (refine sx_ ?_ <;> intro bb) | (refine su_ ?_ <;> intro u hu1 hu2) | fail)
  exact ⟨_,_,rs_,List.Sublist.refl _,by rw [zbq,if_pos hcs]⟩
 ·have hpos : 0 < cs.length:=List.length_pos_iff.2 hcs
  have hat:=zwk (l:=l) (i:=a) (by omega)
  have hA1:=hA hcs
  have hB1:=hB hcs
  have hB2 : 1 ≤ a → (cAt (l.set (a - 1) (32,0)) (a + cs.length - 1)).2 = 1 → a + cs.length < l.length:=fun h1=>by
   rw [zki _ _ _ _ (by omega),if_neg (by omega)]; exact hB1
  have htk : cs.take (a + cs.length - a) = cs:=List.take_of_length_le (by omega)
  refine za Tryz.func163 rfl (by decide) Tryz.ntmps163 rfl ?_
  repeat' (first
  |refine z51 ?_ | (refine zd ?_ ?_ <;> intro hb <;> try exact no_) | (refine sx_ ?_ <;> intro bb) | (refine su_ ?_ <;> intro u hu1 hu2) | fail)
  all_goals refine ⟨_,_,rs_,List.Sublist.refl _, ?_⟩
  all_goals rw [htk,zbq,if_neg hcs]
  ·rename_i e1; simp only [if_pos e1,if_pos hb]
  ·rename_i e1; simp only [if_pos e1,if_neg hb]
  ·rename_i e1; simp only [if_neg e1,if_pos hb]
  ·rename_i e1; simp only [if_neg e1,if_neg hb]
theorem z4h (w h : Nat) (hb : w * h ≤ 100000) : AP Tryz.prog T0 155 [I w,I h] (xx w h (List.replicate (w * h) (32,0))):=(zpv w h hb).frz1 zrc
theorem zju {w h j : Nat} (hw : 1 ≤ w) (h1 : 1 ≤ h) (e : j + 1 = w * h) : j % w = w - 1:=by
 obtain ⟨k,rfl⟩ : ∃ k,h = k + 1:=⟨h - 1,by omega⟩
 have : j = (w - 1) + w * k:=by rw [Nat.mul_add,Nat.mul_one] at e; omega
 rw [this,Nat.add_mul_mod_self_left,Nat.mod_eq_of_lt (by omega)]
theorem zjp {w : Nat} {l : List zp} {i : Nat} (hk : wy w l i = false) (h2 : (cAt l i).2 = 2) : 1 ≤ i:=by
 have:=((zq.1 hk).2 h2).1
 rcases Nat.eq_zero_or_pos i with h | h
 ·subst h; simp at this
 ·exact h
theorem zco {w h : Nat} {l : List zp} {i : Nat} (hw : 1 ≤ w) (h1 : 1 ≤ h) (hl : l.length = w * h) (hi : i < l.length) (hk : wy w l i = false) (h2 : (cAt l i).2 = 1) : i + 1 < l.length:=by
 have h3:=((zq.1 hk).1 h2).1
 rcases Nat.lt_or_ge (i + 1) l.length with h | h
 ·exact h
 ·exact absurd (zju hw h1 (by omega)) h3
theorem zvq (w h : Nat) (u : Value) (l : List zp) (a : Nat) (cs : List zp) (hl : l.length = w * h) (hb : w * h ≤ 1920) (h1 : 1 ≤ w) (h2 : 1 ≤ h) (hok : ∀ i,i < l.length → xv (cAt l i) = true ∧ wy w l i = false) (hac : a + cs.length ≤ l.length) :
  AF Tryz.prog T0 163 [vA u,I a,slA qs cs] [z_ qs 87 u l] (fun _ M'=>M' = [z_ qs 87 u (zbq l a cs)]) :=
 qab u l a cs (by omega) hac (fun hc=>by have:=List.length_pos_iff.2 hc; exact zjp (hok a (by omega)).2) (fun hc hk=>by
  have hp:=List.length_pos_iff.2 hc
  have:=zco h1 h2 hl (by omega) (hok (a + cs.length - 1) (by omega)).2 hk
  omega)
end
section
open Go Go.RowKit
variable {T0 : Gh} [TabS T0]
attribute [local irreducible] zz zg AW AL AO QY qh z_ rsA Opd xh vA gvA zy qb slA jl ipA rpA EqK LnK IxK LdK FaK FdK
set_option maxRecDepth 100000
noncomputable def zm_ (w h : Int) (l : List zp) (x y r : Int) : (Int × Int × List zp) × Int:=if (okG w h l = true ∧ 0 ≤ x ∧ x < w ∧ 0 ≤ y ∧ y < h) ∧ ja r = true ∧ x + (zh r).length ≤ w then ((w,h,zbq l (y.toNat * w.toNat + x.toNat) (zh r)),0) else ((0,0,[]),1)
theorem z72 (w h : Nat) (l : List zp) (x y : Nat) (r : Int) (hl : l.length ≤ 3000) (hc : okG w h l = true ∧ (0 : Int) ≤ x ∧ (x : Int) < w ∧ (0 : Int) ≤ y ∧ (y : Int) < h) (hs : ja r = true) (hx : x + (zh r).length ≤ w) :
  AF Tryz.prog T0 124 [xx w h l,I x,I y,R r] [] (fun A M' => ∃ u,A = zy [qb [I w,I h,vA u],I 0] ∧ M' = [z_ qs 87 u (zbq l (y * w + x) (zh r))]):=by
 obtain ⟨w',h',e1,e2,h1,h2,h3,h4,hlen,hall⟩:=x9 hc.1
 obtain rfl : w = w':=by omega
 obtain rfl : h = h':=by omega
 have hn:=wq r
 have hp:=zbi (show x + (zh r).length - 1 < w by omega) (show y < h by omega)
 have hb:=vl h2 h4
 have m3 : (0 : Int) ≤ ((y * w : Nat) : Int):=Int.natCast_nonneg _
 have c1 : AP Tryz.prog T0 161 [xx w h l,I x,I y] (zy [zh6 (cAt l (y * w + x)),I 0]):=(qbd w h l hl x y).to (by simp only [at2,atR,if_pos hc,Int.toNat_natCast])
 have cl:=fun u=>zvq (T0:=T0) w h u l (y * w + x) (zh r) hlen hb (by omega) h3 hall (by omega)
 have co:=z7u (T0:=T0) w h l (by omega)
 clear hall
 refine za Tryz.func124 rfl (by decide) Tryz.ntmps124 rfl ?_
 repeat' (first
 |(apply zt rfl rfl rfl rfl (c:=co)
   case ha=>repeat' (first | exact zcn | apply zcm oo_)
   rintro _ _ ⟨u,rfl,rfl⟩; refine qq (List.Mem.head _) fun hu1 hu2 => ?_)
  |(apply zb rfl rfl rfl rfl (c:=cl _)
    case ha=>repeat' (first | exact zcn | apply zcm oo_)
    case hM=>repeat' (first | exact Pick.here | apply Pick.next)
    rintro _ _ rfl)
 |refine g9_ ?_ | (refine zd ?_ ?_ <;> intro hb <;> try exact no_) | (refine sx_ ?_ <;> intro bb) | (refine su_ ?_ <;> intro u hu1 hu2) | fail)
 all_goals first | (exfalso; simp [hs] at hb; omega) | skip
 exact ⟨_,_,rs_,sl_,u,rfl,rfl⟩
theorem z73 (w h : Int) (l : List zp) (x y r : Int) (hl : l.length ≤ 3000) : AP Tryz.prog T0 124 [xx w h l,I x,I y,R r] (zbr (zm_ w h l x y r)):=by
 by_cases hc : (okG w h l = true ∧ 0 ≤ x ∧ x < w ∧ 0 ≤ y ∧ y < h) ∧ ja r = true ∧ x + (zh r).length ≤ w
 ·have hc':=hc
  obtain ⟨⟨hok,x1,x2,y1,y2⟩,hs,hx⟩:=hc
  obtain ⟨w,h,rfl,rfl,_⟩:=x9 hok
  obtain ⟨x,rfl⟩:=Int.eq_ofNat_of_zero_le x1
  obtain ⟨y,rfl⟩:=Int.eq_ofNat_of_zero_le y1
  have:=(z72 (T0:=T0) w h l x y r hl hc'.1 hs (by omega)).frz1 zrc
  simpa only [zm_,if_pos hc',zbr,Int.toNat_natCast] using this
 ·have c1 : AP Tryz.prog T0 161 [xx w h l,I x,I y] (zy [zh6 (atR w h l x y).1,I (atR w h l x y).2]):=qbd w h l hl x y
  have hw : (atR w h l x y).2 = 0 → (okG w h l = true ∧ 0 ≤ x ∧ x < w ∧ 0 ≤ y ∧ y < h):=fun e=>by
   by_cases k : okG w h l = true ∧ 0 ≤ x ∧ x < w ∧ 0 ≤ y ∧ y < h
   ·exact k
   ·simp [atR,k] at e
  have hw2 : (atR w h l x y).2 = 0 → 0 ≤ x ∧ x ≤ 80:=fun e=>by
   obtain ⟨k,k1,k2,_⟩:=hw e
   obtain ⟨w',h',rfl,rfl,_,k3,_⟩:=x9 k
   omega
  have hn:=wq r
  generalize (atR w h l x y).1 = c at *
  generalize (atR w h l x y).2 = e at *
  refine za Tryz.func124 rfl (by decide) Tryz.ntmps124 rfl ?_
  repeat' (first
  |(apply zt rfl rfl rfl rfl (c:=co)
    case ha=>repeat' (first | exact zcn | apply zcm oo_)
    rintro _ _ ⟨u,rfl,rfl⟩; refine qq (List.Mem.head _) fun hu1 hu2 => ?_)
   |(apply zb rfl rfl rfl rfl (c:=cl _)
     case ha=>repeat' (first | exact zcn | apply zcm oo_)
     case hM=>repeat' (first | exact Pick.here | apply Pick.next)
     rintro _ _ rfl)
  |refine g9_ ?_ | (refine zd ?_ ?_ <;> intro hb <;> try exact no_) | (refine sx_ ?_ <;> intro bb) | (refine su_ ?_ <;> intro u hu1 hu2) | fail)
  all_goals first | (exfalso; obtain ⟨⟨q1,q2⟩,q3⟩:=hb; exact hc ⟨hw q1,by simpa using q2,by omega⟩) | skip
  refine ⟨_,[],rs_,List.nil_sublist _, ?_,rfl⟩
  simp only [zm_,if_neg hc,zbr]; exact zja
noncomputable def jq (w h : Int) (l : List zp) (a b : Int) : (Int × Int × List zp) × Int:=if okG w h l = true ∧ 0 ≤ a ∧ a ≤ b ∧ b ≤ l.length then ((w,h,zbq l a.toNat (List.replicate (b - a).toNat (32,0))),0) else ((0,0,[]),1)
theorem z0j (w h : Nat) (l : List zp) (a b : Nat) (hl : l.length ≤ 3000) (hc : okG w h l = true) (hab : a ≤ b) (hbl : b ≤ l.length) :
  AF Tryz.prog T0 164 [xx w h l,I a,I b] [] (fun A M' => ∃ u,A = zy [qb [I w,I h,vA u],I 0] ∧ M' = [z_ qs 87 u (zbq l a (List.replicate (b - a) (32,0)))]):=by
 obtain ⟨w',h',e1,e2,h1,h2,h3,h4,hlen,hall⟩:=x9 hc
 obtain rfl : w = w':=by omega
 obtain rfl : h = h':=by omega
 have hb:=vl h2 h4
 have c1 : AP Tryz.prog T0 104 [xx w h l] (B true):=hc ▸ zvz w h l hl
 have c2 : AP Tryz.prog T0 155 [I (b - a : Nat),I 1] (xx (b - a : Nat) 1 (List.replicate (b - a) (32,0))):=(z4h (b - a) 1 (by omega)).to (by rw [Nat.mul_one]; rfl)
 have cl:=fun u=>zvq (T0:=T0) w h u l a (List.replicate (b - a) (32,0)) hlen hb (by omega) h3 hall (by simp; omega)
 have co:=z7u (T0:=T0) w h l (by omega)
 clear hall
 refine za Tryz.func164 rfl (by decide) Tryz.ntmps164 rfl ?_
 repeat' (first
 |(apply zt rfl rfl rfl rfl (c:=co)
   case ha=>repeat' (first | exact zcn | apply zcm oo_)
   rintro _ _ ⟨u,rfl,rfl⟩; refine qq (List.Mem.head _) fun hu1 hu2 => ?_)
  |(apply zb rfl rfl rfl rfl (c:=cl _)
    case ha=>repeat' (first | exact zcn | apply zcm oo_)
    case hM=>repeat' (first | exact Pick.here | apply Pick.next)
    rintro _ _ rfl)
 |refine g7_ ?_ | (refine zd ?_ ?_ <;> intro hb <;> try exact no_) | (refine sx_ ?_ <;> intro bb) | (refine su_ ?_ <;> intro u hu1 hu2) | fail)
 all_goals first | (exfalso; simp at hb; omega) | skip
 exact ⟨_,_,rs_,sl_,u,rfl,rfl⟩
theorem z4o (w h : Int) (l : List zp) (a b : Int) (hl : l.length ≤ 3000) : AP Tryz.prog T0 164 [xx w h l,I a,I b] (zbr (jq w h l a b)):=by
 by_cases hc : okG w h l = true ∧ 0 ≤ a ∧ a ≤ b ∧ b ≤ l.length
 ·have hc':=hc
  obtain ⟨hok,x1,x2,x3⟩:=hc
  obtain ⟨w,h,rfl,rfl,_⟩:=x9 hok
  obtain ⟨a,rfl⟩:=Int.eq_ofNat_of_zero_le x1
  obtain ⟨b,rfl⟩:=Int.eq_ofNat_of_zero_le (show 0 ≤ b by omega)
  have:=(z0j (T0:=T0) w h l a b hl hok (by omega) (by omega)).frz1 zrc
  simpa only [jq,if_pos hc',zbr,Int.toNat_natCast,show ((b : Int) - (a : Int)).toNat = b - a by omega] using this
 ·refine za Tryz.func164 rfl (by decide) Tryz.ntmps164 rfl ?_
  repeat' (first
  |(apply zt rfl rfl rfl rfl (c:=co)
    case ha=>repeat' (first | exact zcn | apply zcm oo_)
    rintro _ _ ⟨u,rfl,rfl⟩; refine qq (List.Mem.head _) fun hu1 hu2 => ?_)
   |(apply zb rfl rfl rfl rfl (c:=cl _)
     case ha=>repeat' (first | exact zcn | apply zcm oo_)
     case hM=>repeat' (first | exact Pick.here | apply Pick.next)
     rintro _ _ rfl)
  |refine sa_ ?_ | refine qd ?_ (c:=by first | exact zvz _ _ _ hl | fail) | refine j0 ?_ | refine zr ?_ (c:=by intro hk hk2; first | exact zvz _ _ _ hl | fail) | refine sw_ ?_ | (refine zd ?_ ?_ <;> intro hb <;> try exact no_) | (refine sx_ ?_ <;> intro bb) | (refine su_ ?_ <;> intro u hu1 hu2) | fail)
  all_goals first | (exfalso; obtain ⟨⟨⟨q1,q2⟩,q3⟩,q4⟩:=hb; exact hc ⟨by simpa using q1,by omega,by omega,by omega⟩) | skip
  refine ⟨_,[],rs_,List.nil_sublist _, ?_,rfl⟩
  simp only [jq,if_neg hc,zbr]; exact zja
end
section
open Go Go.RowKit
variable {T0 : Gh} [TabS T0]
attribute [local irreducible] zz zg AW AL AO QY qh z_ rsA Opd xh vA gvA zy qb slA jl ipA rpA EqK LnK IxK LdK FaK FdK
set_option maxRecDepth 100000
noncomputable def wc (w h : Int) (l : List zp) : List zp:=if okG w h l = true then l.drop w.toNat ++ List.replicate w.toNat (32,0) else l
theorem zvx (w h : Nat) (l : List zp) (hl : l.length ≤ 3000) (hc : okG w h l = true) : AF Tryz.prog T0 126 [xx w h l] [] (fun A M' => ∃ u,A = qb [I w,I h,vA u] ∧ M' = [z_ qs 87 u (l.drop w ++ List.replicate w (32,0))]):=by
 obtain ⟨w',h',e1,e2,h1,h2,h3,h4,hlen,hall⟩:=x9 hc
 obtain rfl : w = w':=by omega
 obtain rfl : h = h':=by omega
 have hb:=vl h2 h4
 have hwl : w ≤ l.length:=by rw [hlen]; exact Nat.le_mul_of_pos_right w h3
 have c1 : AP Tryz.prog T0 104 [xx w h l] (B true):=hc ▸ zvz w h l hl
 have co:=zpv (T0:=T0) w h (by omega)
 clear hall
 refine za Tryz.func126 rfl (by decide) Tryz.ntmps126 rfl ?_
 repeat' (first
 |(apply zt rfl rfl rfl rfl (c:=co)
   case ha=>repeat' (first | exact zcn | apply zcm oo_)
   rintro _ _ ⟨u,rfl,rfl⟩; refine qq (List.Mem.head _) fun hu1 hu2 => ?_)
 |refine g5_ ?_ | (refine zd ?_ ?_ <;> intro hb <;> try exact no_) | (refine sx_ ?_ <;> intro bb) | (refine su_ ?_ <;> intro u hu1 hu2) | fail)
 all_goals first | exact e2_ | skip
 have e : ovr (List.replicate (w * h) ((32,0) : zp)) 0 (((l.drop w).take (l.length - w)).take (List.replicate (w * h) ((32,0) : zp)).length) = l.drop w ++ List.replicate w (32,0):=by
  rw [List.length_replicate,List.take_of_length_le (i:=w * h) (by rw [List.length_take]; omega),List.take_of_length_le (by rw [List.length_drop]; omega)]
  simp only [ovr,List.take_zero,List.nil_append,List.length_drop,List.drop_replicate,Nat.zero_add]
  rw [show w * h - (l.length - w) = w by omega]
 exact ⟨_,[z_ qs 87 u (ovr (List.replicate (w * h) ((32,0) : zp)) 0 (((l.drop w).take (l.length - w)).take (List.replicate (w * h) ((32,0) : zp)).length))],rs_,sl_,u,rfl,by rw [e]⟩
theorem z0i (w h : Int) (l : List zp) (hl : l.length ≤ 3000) : AP Tryz.prog T0 126 [xx w h l] (xx w h (wc w h l)):=by
 by_cases hc : okG w h l = true
 ·obtain ⟨w,h,rfl,rfl,_⟩:=x9 hc
  have:=(zvx (T0:=T0) w h l hl hc).frz1 zrc
  simpa only [wc,if_pos hc,Int.toNat_natCast] using this
 ·have hc' : okG w h l = false:=by simpa using hc
  have c1 : AP Tryz.prog T0 104 [xx w h l] (B false):=hc' ▸ zvz w h l hl
  refine za Tryz.func126 rfl (by decide) Tryz.ntmps126 rfl ?_
  repeat' (first
  |refine g5_ ?_ | (refine zd ?_ ?_ <;> intro hb <;> try exact no_) | (refine sx_ ?_ <;> intro bb) | (refine su_ ?_ <;> intro u hu1 hu2) | fail)
  all_goals first | exact e2_ | skip
  refine ⟨_,[],rs_,List.nil_sublist _, ?_,rfl⟩
  simp only [wc,hc',xx]; exact Sub.refl _
end
section
open Go Go.RowKit
variable {T0 : Gh} [TabS T0]
attribute [local irreducible] zz zg AW AL AO QY qh z_ rsA Opd xh vA gvA zy qb slA jl ipA rpA EqK LnK IxK LdK FaK FdK
set_option maxRecDepth 100000
theorem zg2 (w h w' h' : Int) (l l' : List zp) : AP Tryz.prog T0 18 [xx w h l,xx w' h' l'] (B (decide (w = w' ∧ h = h' ∧ l = l'))):=by
 refine za Tryz.func18 rfl (by decide) Tryz.ntmps18 rfl ?_
 repeat' (first
 |refine sa_ ?_ | refine qd ?_ (c:=by first | exact zb6 _ _ | fail) | refine j0 ?_ | refine zr ?_ (c:=by intro hk hk2; first | exact zb6 _ _ | fail) | refine sw_ ?_ | (refine zd ?_ ?_ <;> intro hb <;> try exact no_) | (refine sx_ ?_ <;> intro bb) | (refine su_ ?_ <;> intro u hu1 hu2) | fail)
 refine ⟨_,[],rs_,List.nil_sublist _,Sub.eq (congrArg B ?_),rfl⟩
 rw [Bool.eq_iff_iff]; simp [and_assoc]
end
section
open Go Go.RowKit
variable {T0 : Gh} [TabS T0]
set_option maxRecDepth 100000
def z7s (w h : Nat) (l : List zp) (W i : Nat) : zp:=if i / W < h ∧ i % W < min W w then (if i % W + 1 = min W w ∧ (cAt l (i / W * w + i % W)).2 = 1 then (32,0) else cAt l (i / W * w + i % W)) else (32,0)
def zfm (w h : Nat) (l : List zp) (W H k : Nat) : List zp:=(List.range (W * H)).map fun i=>if i / W < k then z7s w h l W i else (32,0)
theorem ux (w h : Nat) (l : List zp) (W H k : Nat) : (zfm w h l W H k).length = W * H:=by simp [zfm]
theorem zj2 {w h : Nat} {l : List zp} {W H k i : Nat} (hi : i < W * H) : cAt (zfm w h l W H k) i = if i / W < k then z7s w h l W i else (32,0):=by
 unfold zfm; rw [cAt,List.getElem?_map]; simp [hi]
theorem zu9 (w h : Nat) (l : List zp) (W H : Nat) : zfm w h l W H 0 = List.replicate (W * H) (32,0):=by
 apply zhm
 ·simp [zfm]
 ·intro i hi
  rw [ux] at hi
  rw [zj2 hi,zb9 hi]; simp
theorem zu7 (w h : Nat) (l : List zp) (W H k : Nat) (hw : 2 ≤ w) (hW : 2 ≤ W) (hk : k < min H h) (hl : l.length = w * h) (c : List zp) (hc : c = (((l.drop (k * w)).take ((k + 1) * w - k * w)).take ((k + 1) * W - k * W))) (m1 : List zp) (hm1 : m1 = ovr (zfm w h l W H k) (k * W) c) :
  c.length = min W w ∧ k * W + W ≤ W * H ∧ k * w + w ≤ l.length ∧ m1.length = W * H ∧ (if (cAt m1 (k * W + (c.length - 1))).2 = 1 then m1.set (k * W + (c.length - 1)) (32,0) else m1) = zfm w h l W H (k + 1):=by
 have a1 : (k + 1) * w = k * w + w:=by rw [Nat.add_mul,Nat.one_mul]
 have a2 : (k + 1) * W = k * W + W:=by rw [Nat.add_mul,Nat.one_mul]
 have a3 : (k + 1) * w ≤ h * w:=Nat.mul_le_mul_right _ (by omega)
 have a4 : (k + 1) * W ≤ H * W:=Nat.mul_le_mul_right _ (by omega)
 rw [Nat.mul_comm h w] at a3
 rw [Nat.mul_comm H W] at a4
 have hcl : c.length = min W w:=by rw [hc]; simp only [List.length_take,List.length_drop]; omega
 have hcat : ∀ j,j < min W w → cAt c j = cAt l (k * w + j):=fun j hj=>by rw [hc,zkh (by omega),zkh (by omega),zkk]
 have hfit : k * W + c.length ≤ (zfm w h l W H k).length:=by rw [ux]; omega
 have hm1l : m1.length = W * H:=by rw [hm1,j7 hfit,ux]
 refine ⟨hcl,by omega,by omega,hm1l, ?_⟩
 have hat : ∀ i,cAt m1 i = if i < k * W then cAt (zfm w h l W H k) i else if i < k * W + c.length then cAt c (i - k * W) else cAt (zfm w h l W H k) i:=fun i=>by rw [hm1,zkj hfit]
 have hval : cAt m1 (k * W + (c.length - 1)) = cAt l (k * w + (min W w - 1)):=by
  rw [hat,if_neg (by omega),if_pos (by omega),show k * W + (c.length - 1) - k * W = min W w - 1 by omega,hcat _ (by omega)]
 have e : ∀ i,cAt (if (cAt m1 (k * W + (c.length - 1))).2 = 1 then m1.set (k * W + (c.length - 1)) (32,0) else m1) i = if i = k * W + (min W w - 1) ∧ (cAt l (k * w + (min W w - 1))).2 = 1 then (32,0) else cAt m1 i:=fun i=>by
  rw [hval,hcl]
  by_cases h1 : (cAt l (k * w + (min W w - 1))).2 = 1
  ·rw [if_pos h1,zki _ _ _ _ (by omega)]; simp [h1]
  ·rw [if_neg h1]; simp [h1]
 apply zhm
 ·rw [ux]; split
  ·rw [List.length_set]; exact hm1l
  ·exact hm1l
 ·intro i hi
  have hi2 : i < W * H:=by
   have : (if (cAt m1 (k * W + (c.length - 1))).2 = 1 then m1.set (k * W + (c.length - 1)) (32,0) else m1).length = W * H:=by
    split
    ·rw [List.length_set]; exact hm1l
    ·exact hm1l
   omega
  rw [e,hat,zj2 hi2,zj2 hi2]
  have hd : i / W < k ↔ i < k * W:=Nat.div_lt_iff_lt_mul (by omega)
  have hd2 : i / W < k + 1 ↔ i < k * W + W:=by rw [← a2]; exact Nat.div_lt_iff_lt_mul (by omega)
  by_cases q1 : i < k * W
  ·rw [if_neg (by omega),if_pos q1,if_pos (hd.2 q1),if_pos (hd2.2 (by omega))]
  ·by_cases q2 : i < k * W + W
   ·have hq : i / W = k:=by
     have:=hd2.2 q2
     have : ¬ i / W < k:=fun x=>q1 (hd.1 x)
     omega
    have hx : i % W = i - k * W:=by
     have:=Nat.div_add_mod i W
     rw [hq,Nat.mul_comm W k] at this; omega
    rw [if_neg q1,if_neg (fun x=>q1 (hd.1 x)),if_pos (hd2.2 q2)]
    unfold z7s
    rw [hq,hx,hcl]
    by_cases q3 : i < k * W + min W w
    ·rw [if_pos q3,hcat _ (by omega),if_pos (show k < h ∧ i - k * W < min W w by omega)]
     by_cases q4 : i = k * W + (min W w - 1)
     ·subst q4
      rw [show k * W + (min W w - 1) - k * W = min W w - 1 by omega]
      have q5 : min W w - 1 + 1 = min W w:=by omega
      simp [q5]
     ·rw [if_neg (by omega),if_neg (by omega)]
    ·rw [if_neg q3,if_neg (show ¬ (k < h ∧ i - k * W < min W w) by omega),if_neg (by omega)]
   ·rw [if_neg (by omega),if_neg q1,if_neg (by omega),if_neg (fun x=>q1 (hd.1 x)),if_neg (fun x=>q2 (hd2.1 x))]
attribute [local irreducible] zz zg AW AL AO QY qh z_ rsA Opd xh vA gvA zy qb slA jl ipA rpA EqK LnK IxK LdK FaK FdK
theorem z74 (w h W H : Nat) (l : List zp) (hl : l.length ≤ 3000) (hc : okG w h l = true) (h1 : 2 ≤ W) (h2 : W ≤ 80) (h3 : 1 ≤ H) (h4 : H ≤ 24) : AF Tryz.prog T0 105 [xx w h l,I W,I H] [] (fun A M' => ∃ u,A = zy [qb [I W,I H,vA u],I 0] ∧ M' = [z_ qs 87 u (zfm w h l W H (min H h))]):=by
 obtain ⟨w',h',e1,e2,g1,g2,g3,g4,hlen,hall⟩:=x9 hc
 obtain rfl : w = w':=by omega
 obtain rfl : h = h':=by omega
 clear hall
 have hb:=vl g2 g4
 have hb2:=vl h2 h4
 have c1 : AP Tryz.prog T0 104 [xx w h l] (B true):=hc ▸ zvz w h l hl
 have co:=z15 (T0:=T0) W H h1 h2 h3 h4
 refine za Tryz.func105 rfl (by decide) Tryz.ntmps105 rfl ?_
 repeat' (first
 |(apply zt rfl rfl rfl rfl (c:=co)
   case ha=>repeat' (first | exact zcn | apply zcm oo_)
   rintro _ _ ⟨u,rfl,rfl⟩; refine qq (List.Mem.head _) fun hu1 hu2 => ?_)
 |refine g8_ ?_ | (refine zd ?_ ?_ <;> intro hb <;> try exact no_) | (refine sx_ ?_ <;> intro bb) | (refine su_ ?_ <;> intro u hu1 hu2) | fail)
 all_goals first | exact e2_ | skip
 rename_i b3 b6 q1
 refine ze6 (fun k : Nat=>[(1,I W),(2,I H),(3,vA (.pointer (some ⟨b3,0,none⟩))),(6,vA (.pointer (some ⟨b6,0,none⟩))),(8,vA (.pointer (some ⟨bb,0,none⟩))),(30,I (min H h : Nat)),(31,I k)])
  (fun k=>[qh bb 27 [I W,I H,vA u],z_ qs 87 u (zfm w h l W H k),qh b6 27 [I 0,I 0,vA (.slice none 0 0)],qh b3 27 [I w,I h,slA qs l]]) (fun k=>k ≤ min H h) (fun k=>min H h - k) 0 (Nat.zero_le _) wk_ (by rw [zu9]; exact List.Sublist.refl _) ?_
 rintro k i1
 by_cases hlt : k < min H h
 ·have hr:=zu7 w h l W H k g1 h1 hlt hlen _ rfl _ rfl
  obtain ⟨r1,r2,r3,r4,r5⟩:=hr
  have a1 : (k + 1) * w = k * w + w:=by rw [Nat.add_mul,Nat.one_mul]
  have a2 : (k + 1) * W = k * W + W:=by rw [Nat.add_mul,Nat.one_mul]
  have m1 : (0 : Int) ≤ ((k * w : Nat) : Int):=Int.natCast_nonneg _
  have m2 : (0 : Int) ≤ ((k * W : Nat) : Int):=Int.natCast_nonneg _
  have m3 : (0 : Int) ≤ (((k + 1) * w : Nat) : Int):=Int.natCast_nonneg _
  have m4 : (0 : Int) ≤ (((k + 1) * W : Nat) : Int):=Int.natCast_nonneg _
  have m5:=ux w h l W H k
  repeat' (first
  |(apply zt rfl rfl rfl rfl (c:=co)
    case ha=>repeat' (first | exact zcn | apply zcm oo_)
    rintro _ _ ⟨u,rfl,rfl⟩; refine qq (List.Mem.head _) fun hu1 hu2 => ?_)
  |refine g8_ ?_ | (refine zd ?_ ?_ <;> intro hb <;> try exact no_) | (refine sx_ ?_ <;> intro bb) | (refine su_ ?_ <;> intro u hu1 hu2) | fail)
  ·rw [if_pos hb] at r5
   exact ⟨k + 1,by omega,by omega,wk_,by rw [← r5]; exact List.Sublist.refl _⟩
  ·rw [if_neg hb] at r5
   exact ⟨k + 1,by omega,by omega,wk_,by rw [← r5]; exact List.Sublist.refl _⟩
 ·repeat' (first
  |(apply zt rfl rfl rfl rfl (c:=co)
    case ha=>repeat' (first | exact zcn | apply zcm oo_)
    rintro _ _ ⟨u,rfl,rfl⟩; refine qq (List.Mem.head _) fun hu1 hu2 => ?_)
  |refine g8_ ?_ | (refine zd ?_ ?_ <;> intro hb <;> try exact no_) | (refine sx_ ?_ <;> intro bb) | (refine su_ ?_ <;> intro u hu1 hu2) | fail)
  exact ⟨_,[z_ qs 87 u (zfm w h l W H k)],rs_,sl_,u,rfl,by rw [show k = min H h by omega]⟩
noncomputable def zmt (w h : Int) (l : List zp) (W H : Int) : (Int × Int × List zp) × Int:=if okG w h l = true then (if xl W H = true then ((W,H,zfm w.toNat h.toNat l W.toNat H.toNat (min H.toNat h.toNat)),0) else ((0,0,[]),4)) else ((0,0,[]),1)
theorem z75 (w h W H : Int) (l : List zp) (hl : l.length ≤ 3000) : AP Tryz.prog T0 105 [xx w h l,I W,I H] (zbr (zmt w h l W H)):=by
 by_cases hc : okG w h l = true
 ·by_cases hs : xl W H = true
  ·obtain ⟨w,h,rfl,rfl,_⟩:=x9 hc
   obtain ⟨W,H,rfl,rfl,h1,h2,h3,h4⟩:=wt hs
   have:=(z74 (T0:=T0) w h W H l hl hc h1 h2 h3 h4).frz1 zrc
   simpa only [zmt,if_pos hc,if_pos hs,zbr,Int.toNat_natCast] using this
  ·have c1 : AP Tryz.prog T0 104 [xx w h l] (B true):=hc ▸ zvz w h l hl
   have c2 : AP Tryz.prog T0 114 [I W,I H] (zy [xx 0 0 [],I 4]):=(znw W H).to (by simp only [ze0,hs,zbr]; rfl)
   refine za Tryz.func105 rfl (by decide) Tryz.ntmps105 rfl ?_
   repeat' (first
   |refine g7_ ?_ | (refine zd ?_ ?_ <;> intro hb <;> try exact no_) | (refine sx_ ?_ <;> intro bb) | (refine su_ ?_ <;> intro u hu1 hu2) | fail)
   all_goals first | exact e2_ | skip
   refine ⟨_,[],rs_,List.nil_sublist _, ?_,rfl⟩
   simp only [zmt,if_pos hc,if_neg hs,zbr]; exact Sub.refl _
 ·have hc' : okG w h l = false:=by simpa using hc
  have c1 : AP Tryz.prog T0 104 [xx w h l] (B false):=hc' ▸ zvz w h l hl
  refine za Tryz.func105 rfl (by decide) Tryz.ntmps105 rfl ?_
  repeat' (first
  |refine g7_ ?_ | (refine zd ?_ ?_ <;> intro hb <;> try exact no_) | (refine sx_ ?_ <;> intro bb) | (refine su_ ?_ <;> intro u hu1 hu2) | fail)
  all_goals first | exact e2_ | skip
  refine ⟨_,[],rs_,List.nil_sublist _, ?_,rfl⟩
  simp only [zmt,if_neg hc,zbr]; exact zja
end
section
open Go Go.RowKit
variable {T0 : Gh} [TabS T0]
set_option maxRecDepth 100000
def okB (w h : Int) (l : List zp) : Bool:=xl w h && decide ((l.length : Int) = w * h) && (List.range l.length).all fun i=>xv (cAt l i) && !wy w.toNat l i
theorem zo1 (w h : Int) (l : List zp) : okG w h l = okB w h l:=by
 rw [Bool.eq_iff_iff,okG,decide_eq_true_eq,OkG,okB]
 simp [xl,and_assoc]
theorem AF.pre {P : Program} {T0 : Gh} {f : FuncId} {As As' : List AV} {M : List Own} {K : AV → List Own → Prop} {KP : List PanicEntry → List Own → Prop} (h : AF P T0 f As M K KP) (s : SubL As' As) : AF P T0 f As' M K KP:=⟨h.able,fun w0 G F w vs hs hr=>h.calls w0 G F w vs hs (s.rep hr)⟩
attribute [local irreducible] zz zg AW AL AO QY qh z_ rsA Opd xh vA gvA zy qb slA jl ipA rpA EqK LnK IxK LdK FaK FdK
end
section
open Go Go.RowKit
variable {T0 : Gh} [TabS T0]
set_option maxRecDepth 100000
attribute [local irreducible] zz zg AW AL AO QY qh z_ rsA Opd xh vA gvA zy qb slA jl ipA rpA EqK LnK IxK LdK FaK FdK
end
section
open Go Go.RowKit
set_option maxRecDepth 100000
def zhu (w a : Nat) (cs : List zp) : Prop := ∀ j,j < cs.length → ((cAt cs j).2 = 1 → j + 1 < cs.length ∧ cAt cs (j + 1) = ((cAt cs j).1,2) ∧ (a + j) % w ≠ w - 1) ∧ ((cAt cs j).2 = 2 → 1 ≤ j ∧ cAt cs (j - 1) = ((cAt cs j).1,1) ∧ (a + j) % w ≠ 0)
theorem zng {l : List zp} {a : Nat} {cs : List zp} (hne : cs ≠ []) (hac : a + cs.length ≤ l.length) (hA : (cAt l a).2 = 2 → 1 ≤ a) (hB : (cAt l (a + cs.length - 1)).2 = 1 → a + cs.length < l.length) (i : Nat) :
  cAt (zbq l a cs) i = if i < a then (if i + 1 = a ∧ (cAt l a).2 = 2 then (32,0) else cAt l i) else if i < a + cs.length then cAt cs (i - a) else (if i = a + cs.length ∧ (cAt l (a + cs.length - 1)).2 = 1 then (32,0) else cAt l i):=by
 have hp:=List.length_pos_iff.2 hne
 unfold zbq
 rw [if_neg hne]
 simp only
 have e1 : ∀ j,cAt (if (cAt l a).2 = 2 then l.set (a - 1) (32,0) else l) j = if j + 1 = a ∧ (cAt l a).2 = 2 then (32,0) else cAt l j:=fun j=>by
  by_cases h : (cAt l a).2 = 2
  ·have:=hA h
   rw [if_pos h,zki _ _ _ _ (by omega)]
   by_cases hj : j = a - 1
   ·rw [if_pos hj,if_pos ⟨by omega,h⟩]
   ·rw [if_neg hj,if_neg (by omega)]
  ·rw [if_neg h,if_neg (fun x=>h x.2)]
 have len1 : (if (cAt l a).2 = 2 then l.set (a - 1) (32,0) else l).length = l.length:=by split <;> simp
 generalize (if (cAt l a).2 = 2 then l.set (a - 1) (32,0) else l) = l1 at *
 have hv : cAt l1 (a + cs.length - 1) = cAt l (a + cs.length - 1):=by rw [e1,if_neg (by omega)]
 rw [hv]
 have e2 : ∀ j,cAt (if (cAt l (a + cs.length - 1)).2 = 1 then l1.set (a + cs.length) (32,0) else l1) j = if j = a + cs.length ∧ (cAt l (a + cs.length - 1)).2 = 1 then (32,0) else cAt l1 j:=fun j=>by
  by_cases h : (cAt l (a + cs.length - 1)).2 = 1
  ·have:=hB h
   rw [if_pos h,zki _ _ _ _ (by omega)]
   by_cases hj : j = a + cs.length
   ·rw [if_pos hj,if_pos ⟨hj,h⟩]
   ·rw [if_neg hj,if_neg (fun x=>hj x.1)]
  ·rw [if_neg h,if_neg (fun x=>h x.2)]
 have len2 : (if (cAt l (a + cs.length - 1)).2 = 1 then l1.set (a + cs.length) (32,0) else l1).length = l.length:=by split <;> simp [len1]
 rw [zkj (by rw [len2]; exact hac),e2,e1]
 by_cases q1 : i < a
 ·rw [if_pos q1,if_pos q1,if_neg (by omega)]
 ·rw [if_neg q1,if_neg q1]
  by_cases q2 : i < a + cs.length
  ·rw [if_pos q2,if_pos q2]
  ·rw [if_neg q2,if_neg q2]
   by_cases q3 : i = a + cs.length ∧ (cAt l (a + cs.length - 1)).2 = 1
   ·rw [if_pos q3,if_pos q3]
   ·rw [if_neg q3,if_neg q3,if_neg (by omega)]
theorem zzf (w h : Nat) (l : List zp) (a : Nat) (cs : List zp) (hw : 2 ≤ w) (h1 : 1 ≤ h) (hl : l.length = w * h) (hok : ∀ i,i < l.length → xv (cAt l i) = true ∧ wy w l i = false) (hac : a + cs.length ≤ l.length) (hcs : zhu w a cs) : zjs w (ovr l a cs) = zbq l a cs:=by
 have hm : ∀ i,cAt (ovr l a cs) i = if i < a then cAt l i else if i < a + cs.length then cAt cs (i - a) else cAt l i:=fun i=>zkj hac
 apply zhm (by rw [wx,j7 hac,zpa hac])
 intro i hi
 rw [wx,j7 hac] at hi
 rw [uv (by rw [j7 hac]; exact hi)]
 obtain ⟨_,o1⟩:=hok i hi
 obtain ⟨o2,o3⟩:=zq.1 o1
 by_cases hne : cs = []
 ·subst hne
  have e : ovr l a [] = l:=by simp [ovr]
  rw [e,o1]; simp [zbq]
 have hp:=List.length_pos_iff.2 hne
 have oa:=zq.1 (hok a (by omega)).2
 have ob:=zq.1 (hok (a + cs.length - 1) (by omega)).2
 have c0:=hcs 0 hp
 have cl:=hcs (cs.length - 1) (by omega)
 rw [zng hne hac (fun k=>zjp (hok a (by omega)).2 k) (fun k=>by have:=zco (by omega) h1 hl (by omega) (hok (a + cs.length - 1) (by omega)).2 k; omega)]
 by_cases q1 : i < a
 ·rw [if_pos q1]
  by_cases q2 : i + 1 = a ∧ (cAt l a).2 = 2
  ·rw [if_pos q2]
   obtain ⟨q3,q4⟩:=q2
   have q5:=(oa.2 q4).2
   rw [show a - 1 = i by omega] at q5
   have q6 : wy w (ovr l a cs) i = true:=by
    rw [← Bool.not_eq_false]
    intro hf
    have:=((zq.1 hf).1 (by rw [hm,if_pos q1,q5])).2
    rw [hm (i + 1),if_neg (by omega),if_pos (by omega),show i + 1 - a = 0 by omega] at this
    have:=(c0.2 (by rw [this])).1
    omega
   rw [q6]; rfl
  ·rw [if_neg q2]
   have q6 : wy w (ovr l a cs) i = false:=zq.2 ⟨fun k => ?_,fun k => ?_⟩
   ·rw [q6,hm,if_pos q1]; rfl
   ·rw [hm i,if_pos q1] at k ⊢
    obtain ⟨k1,k2⟩:=o2 k
    refine ⟨k1, ?_⟩
    by_cases q7 : i + 1 < a
    ·rw [hm,if_pos q7]; exact k2
    ·exfalso; apply q2
     refine ⟨by omega, ?_⟩
     rw [show a = i + 1 by omega,k2]
   ·rw [hm i,if_pos q1] at k ⊢
    obtain ⟨k1,k2⟩:=o3 k
    exact ⟨k1,by rw [hm,if_pos (by omega)]; exact k2⟩
 ·rw [if_neg q1]
  by_cases q2 : i < a + cs.length
  ·rw [if_pos q2]
   obtain ⟨d1,d2⟩:=hcs (i - a) (by omega)
   rw [show a + (i - a) = i by omega] at d1 d2
   have q6 : wy w (ovr l a cs) i = false:=zq.2 ⟨fun k => ?_,fun k => ?_⟩
   ·rw [q6,hm,if_neg q1,if_pos q2]; rfl
   ·rw [hm i,if_neg q1,if_pos q2] at k ⊢
    obtain ⟨k1,k2,k3⟩:=d1 k
    exact ⟨k3,by rw [hm,if_neg (by omega),if_pos (by omega),show i + 1 - a = i - a + 1 by omega]; exact k2⟩
   ·rw [hm i,if_neg q1,if_pos q2] at k ⊢
    obtain ⟨k1,k2,k3⟩:=d2 k
    exact ⟨k3,by rw [hm,if_neg (by omega),if_pos (by omega),show i - 1 - a = i - a - 1 by omega]; exact k2⟩
  ·rw [if_neg q2]
   by_cases q3 : i = a + cs.length ∧ (cAt l (a + cs.length - 1)).2 = 1
   ·rw [if_pos q3]
    obtain ⟨q4,q5⟩:=q3
    have q7:=(ob.1 q5).2
    rw [show a + cs.length - 1 + 1 = i by omega] at q7
    have q6 : wy w (ovr l a cs) i = true:=by
     rw [← Bool.not_eq_false]
     intro hf
     have:=((zq.1 hf).2 (by rw [hm,if_neg q1,if_neg q2,q7])).2
     rw [hm (i - 1),if_neg (by omega),if_pos (by omega),show i - 1 - a = cs.length - 1 by omega] at this
     have:=(cl.1 (by rw [this])).1
     omega
    rw [q6]; rfl
   ·rw [if_neg q3]
    have q6 : wy w (ovr l a cs) i = false:=zq.2 ⟨fun k => ?_,fun k => ?_⟩
    ·rw [q6,hm,if_neg q1,if_neg q2]; rfl
    ·rw [hm i,if_neg q1,if_neg q2] at k ⊢
     obtain ⟨k1,k2⟩:=o2 k
     exact ⟨k1,by rw [hm,if_neg (by omega),if_neg (by omega)]; exact k2⟩
    ·rw [hm i,if_neg q1,if_neg q2] at k ⊢
     obtain ⟨k1,k2⟩:=o3 k
     refine ⟨k1, ?_⟩
     by_cases q7 : i = a + cs.length
     ·exfalso; apply q3
      refine ⟨q7, ?_⟩
      rw [show a + cs.length - 1 = i - 1 by omega,k2]
     ·rw [hm,if_neg (by omega),if_neg (by omega)]; exact k2
end
section
open Go Go.RowKit
variable {T0 : Gh} [TabS T0]
set_option maxRecDepth 100000
theorem zf5 (w a n : Nat) : zhu w a (List.replicate n (32,0)):=fun j hj=>by
 rw [zb9 (by simpa using hj)]
 exact ⟨fun k=>by simp at k,fun k=>by simp at k⟩
attribute [local irreducible] zz zg AW AL AO QY qh z_ rsA Opd xh vA gvA zy qb slA jl ipA rpA EqK LnK IxK LdK FaK FdK
end
section
open Go Go.RowKit
variable {T0 : Gh} [TabS T0]
set_option maxRecDepth 100000
attribute [local irreducible] zz zg AW AL AO QY qh z_ rsA Opd xh vA gvA zy qb slA jl ipA rpA EqK LnK IxK LdK FaK FdK
end
section
open Go Go.RowKit
variable {T0 : Gh} [TabS T0]
set_option maxRecDepth 100000
theorem ym {r : Int} (hs : ja r = true) : zh r = if isW r then [(r,1),(r,2)] else [(r,0)]:=by
 simp [zh,zwg hs,hs]
theorem zdw {w y x : Nat} (h : x < w) : (y * w + x) % w = x:=by
 rw [Nat.add_comm,Nat.add_mul_mod_self_right,Nat.mod_eq_of_lt h]
theorem zhl (w y x : Nat) (r : Int) (hs : ja r = true) (hx : x + (zh r).length ≤ w) : zhu w (y * w + x) (zh r):=by
 rw [ym hs] at hx ⊢
 cases hw : isW r with
 |true =>
  rw [hw] at hx
  simp only [if_true,List.length_cons,List.length_nil] at hx ⊢
  have h0:=zdw (w:=w) (y:=y) (x:=x) (by omega)
  have h1:=zdw (w:=w) (y:=y) (x:=x + 1) (by omega)
  intro j hj
  simp only [List.length_cons,List.length_nil] at hj
  have : j = 0 ∨ j = 1:=by omega
  rcases this with rfl | rfl
  ·refine ⟨fun _=>⟨by simp,rfl,by rw [Nat.add_zero,h0]; omega⟩,fun h=>by simp [cAt] at h⟩
  ·refine ⟨fun h=>by simp [cAt] at h,fun _=>⟨by omega,rfl,by rw [Nat.add_assoc,h1]; omega⟩⟩
 |false =>
  simp only [Bool.false_eq_true,if_false]
  intro j hj
  simp only [List.length_cons,List.length_nil] at hj
  obtain rfl : j = 0:=by omega
  exact ⟨fun h=>by simp [cAt] at h,fun h=>by simp [cAt] at h⟩
attribute [local irreducible] zz zg AW AL AO QY qh z_ rsA Opd xh vA gvA zy qb slA jl ipA rpA EqK LnK IxK LdK FaK FdK
end
section
open Go Go.RowKit
set_option maxRecDepth 100000
theorem zwa {W y x : Nat} (h : x < W) : (W * y + x) / W = y:=by
 rw [Nat.mul_add_div (by omega),Nat.div_eq_of_lt h,Nat.add_zero]
theorem zo8 {i w : Nat} (hw : 1 ≤ w) (h : i % w ≠ w - 1) : (i + 1) % w = i % w + 1:=by
 have h1:=Nat.mod_lt i (show 0 < w by omega)
 have e : i + 1 = (i % w + 1) + w * (i / w):=by have:=Nat.mod_add_div i w; omega
 calc (i + 1) % w = ((i % w + 1) + w * (i / w)) % w:=congrArg (· % w) e
  _ = i % w + 1:=by rw [Nat.add_mul_mod_self_left,Nat.mod_eq_of_lt (by omega)]
theorem zo9 {i w : Nat} (hw : 1 ≤ w) (h : i % w ≠ 0) : (i - 1) % w = i % w - 1:=by
 have h1:=Nat.mod_lt i (show 0 < w by omega)
 have e : i - 1 = (i % w - 1) + w * (i / w):=by have:=Nat.mod_add_div i w; omega
 calc (i - 1) % w = ((i % w - 1) + w * (i / w)) % w:=congrArg (· % w) e
  _ = i % w - 1:=by rw [Nat.add_mul_mod_self_left,Nat.mod_eq_of_lt (by omega)]
theorem zt5 {w h i : Nat} {l : List zp} (hw : 1 ≤ w) (h1 : 1 ≤ h) (hl : l.length = w * h) (hi : i < l.length) (hm : i % w ≠ w - 1) : i + 1 < l.length:=by
 rcases Nat.lt_or_ge (i + 1) l.length with k | k
 ·exact k
 ·exact absurd (zju hw h1 (by omega)) hm
theorem ztp {w i : Nat} (hm : i % w ≠ 0) : 1 ≤ i:=by
 rcases Nat.eq_zero_or_pos i with h | h
 ·subst h; simp at hm
 ·exact h
theorem zud (w h : Nat) (l : List zp) (hw : 2 ≤ w) (h1 : 1 ≤ h) (hl : l.length = w * h) (hc : ∀ i,i < l.length → xv (cAt l i) = true) : ∀ i,i < (zjs w l).length → xv (cAt (zjs w l) i) = true ∧ wy w (zjs w l) i = false:=by
 intro i hi
 rw [wx] at hi
 refine ⟨?_,zq.2 ⟨fun k => ?_,fun k => ?_⟩⟩
 ·rw [uv hi]; split
  ·exact ka
  ·exact hc i hi
 ·rw [uv hi] at k ⊢
  by_cases q : wy w l i = true
  ·rw [if_pos q] at k; simp at k
  ·rw [if_neg q] at k ⊢
   obtain ⟨k1,k2⟩:=(zq.1 (by simpa using q)).1 k
   refine ⟨k1, ?_⟩
   have hn:=zt5 (by omega) h1 hl hi k1
   rw [uv hn,if_neg,k2]
   rw [Bool.not_eq_true]
   refine zq.2 ⟨fun e => ?_,fun _=>⟨?_, ?_⟩⟩
   ·rw [k2] at e; simp at e
   ·rw [zo8 (by omega) k1]; omega
   ·rw [Nat.add_sub_cancel,k2]; exact Prod.ext rfl k
 ·rw [uv hi] at k ⊢
  by_cases q : wy w l i = true
  ·rw [if_pos q] at k; simp at k
  ·rw [if_neg q] at k ⊢
   obtain ⟨k1,k2⟩:=(zq.1 (by simpa using q)).2 k
   refine ⟨k1, ?_⟩
   have hp:=ztp k1
   have hml:=Nat.mod_lt i (show 0 < w by omega)
   rw [uv (by omega),if_neg,k2]
   rw [Bool.not_eq_true]
   refine zq.2 ⟨fun _=>⟨?_, ?_⟩,fun e => ?_⟩
   ·rw [zo9 (by omega) k1]; omega
   ·rw [show i - 1 + 1 = i by omega,k2]; exact Prod.ext rfl k
   ·rw [k2] at e; simp at e
theorem zo0 {w h : Nat} {l : List zp} (h1 : 2 ≤ w) (h2 : w ≤ 80) (h3 : 1 ≤ h) (h4 : h ≤ 24) (hl : l.length = w * h) (hc : ∀ i,i < l.length → xv (cAt l i) = true ∧ wy w l i = false) : okG w h l = true :=
 decide_eq_true ⟨by omega,by rw [hl]; simp,by simpa using hc⟩
theorem zui (w h : Nat) (l : List zp) (a : Nat) (cs : List zp) (hok : okG w h l = true) (hac : a + cs.length ≤ l.length) (hcs : zhu w a cs) (hcl : ∀ j,j < cs.length → xv (cAt cs j) = true) : okG w h (zbq l a cs) = true:=by
 obtain ⟨w',h',e1,e2,h1,h2,h3,h4,hlen,hall⟩:=x9 hok
 obtain rfl : w = w':=by omega
 obtain rfl : h = h':=by omega
 have hl2:=j7 hac
 rw [← zzf w h l a cs h1 h3 hlen hall hac hcs]
 refine zo0 h1 h2 h3 h4 (by rw [wx,hl2,hlen]) (zud w h _ h1 h3 (by rw [hl2,hlen]) fun i hi => ?_)
 rw [hl2] at hi
 rw [zkj hac]
 split
 ·exact (hall i hi).1
 ·split
  ·exact hcl _ (by omega)
  ·exact (hall i hi).1
theorem zeg {r : Int} (hs : ja r = true) : ∀ j,j < (zh r).length → xv (cAt (zh r) j) = true:=by
 rw [ym hs]
 cases hw : isW r with
 |true =>
  simp only [if_true,List.length_cons,List.length_nil]
  intro j hj
  have : j = 0 ∨ j = 1:=by omega
  rcases this with rfl | rfl <;> simp [cAt,xv,hs,hw]
 |false =>
  simp only [Bool.false_eq_true,if_false,List.length_cons,List.length_nil]
  intro j hj
  obtain rfl : j = 0:=by omega
  simp [cAt,xv,hs,hw]
def z9k (w : Nat) (l : List zp) (W m y x i : Nat) : zp:=if i / W < y ∧ i % W < m ∨ i / W = y ∧ i % W < x then cAt l (i / W * w + i % W) else (32,0)
def z4z (w : Nat) (l : List zp) (W H m y x : Nat) : List zp:=(List.range (W * H)).map fun i=>z9k w l W m y x i
theorem zfr (w : Nat) (l : List zp) (W H m y x : Nat) : (z4z w l W H m y x).length = W * H:=by simp [z4z]
theorem zwb {w : Nat} {l : List zp} {W H m y x i : Nat} (h : i < W * H) : cAt (z4z w l W H m y x) i = z9k w l W m y x i:=by
 unfold z4z; rw [cAt,List.getElem?_map]; simp [h]
theorem zz4 (w h : Nat) (l : List zp) (W H : Nat) (hok : okG w h l = true) (hW : 2 ≤ W) (hH : 1 ≤ H) : zjs W (z4z w l W H (min W w) (min H h) 0) = zfm w h l W H (min H h):=by
 obtain ⟨w',h',e1,e2,h1,h2,h3,h4,hlen,hall⟩:=x9 hok
 obtain rfl : w = w':=by omega
 obtain rfl : h = h':=by omega
 have hcl:=zfr w l W H (min W w) (min H h) 0
 apply zhm (by rw [wx,hcl,ux])
 intro i hi
 rw [wx,hcl] at hi
 rw [uv (by rw [hcl]; exact hi),zj2 hi]
 have hdm:=Nat.div_add_mod i W
 have hml:=Nat.mod_lt i (show 0 < W by omega)
 have hdl : i / W < H:=by rw [Nat.div_lt_iff_lt_mul (by omega),Nat.mul_comm]; exact hi
 have hat : ∀ j,j < W * H → cAt (z4z w l W H (min W w) (min H h) 0) j = if j / W < min H h ∧ j % W < min W w then cAt l (j / W * w + j % W) else (32,0):=fun j hj=>by
  rw [zwb hj,z9k]
  have : (j / W < min H h ∧ j % W < min W w ∨ j / W = min H h ∧ j % W < 0) ↔ (j / W < min H h ∧ j % W < min W w):=by omega
  simp only [this]
 by_cases q : i / W < min H h ∧ i % W < min W w
 ·obtain ⟨q1,q2⟩:=q
  rw [if_pos q1,z7s,if_pos (show i / W < h ∧ i % W < min W w by omega)]
  have hp:=zbi (w:=w) (h:=h) (x:=i % W) (y:=i / W) (by omega) (by omega)
  have hmod:=zdw (w:=w) (y:=i / W) (x:=i % W) (by omega)
  obtain ⟨_,ho⟩:=hall (i / W * w + i % W) (by omega)
  obtain ⟨o1,o2⟩:=zq.1 ho
  rw [hmod] at o1 o2
  have hv:=hat i hi
  rw [if_pos ⟨q1,q2⟩] at hv
  by_cases k1 : (cAt l (i / W * w + i % W)).2 = 1
  ·obtain ⟨p1,p2⟩:=o1 k1
   by_cases k2 : i % W + 1 = min W w
   ·rw [if_pos (show i % W + 1 = min W w ∧ (cAt l (i / W * w + i % W)).2 = 1 from ⟨k2,k1⟩),if_pos]
    rw [← Bool.not_eq_false]
    intro hf
    have:=(zq.1 hf).1 (by rw [hv]; exact k1)
    omega
   ·rw [if_neg (show ¬ (i % W + 1 = min W w ∧ (cAt l (i / W * w + i % W)).2 = 1) from fun x=>k2 x.1),hv,if_neg]
    rw [Bool.not_eq_true]
    refine zq.2 ⟨fun _=>⟨by omega, ?_⟩,fun e=>by rw [hv,k1] at e; simp at e⟩
    have hd2 : (i + 1) / W = i / W:=by
     have e : i + 1 = W * (i / W) + (i % W + 1):=by omega
     calc (i + 1) / W = (W * (i / W) + (i % W + 1)) / W:=congrArg (· / W) e
      _ = i / W:=zwa (by omega)
    have hm2:=zo8 (i:=i) (w:=W) (by omega) (by omega)
    have hn : i + 1 < W * H:=by
     have:=zbi (w:=W) (h:=H) (x:=i % W + 1) (y:=i / W) (by omega) hdl
     rw [Nat.mul_comm] at this; omega
    rw [hat _ hn,hd2,hm2,if_pos (by omega),hv,← Nat.add_assoc,p2]
  ·rw [if_neg (show ¬ (i % W + 1 = min W w ∧ (cAt l (i / W * w + i % W)).2 = 1) from fun x=>k1 x.2),hv,if_neg]
   rw [Bool.not_eq_true]
   refine zq.2 ⟨fun e=>by rw [hv] at e; exact absurd e k1,fun e => ?_⟩
   rw [hv] at e
   obtain ⟨p1,p2⟩:=o2 e
   refine ⟨p1, ?_⟩
   have hd2 : (i - 1) / W = i / W:=by
    have e : i - 1 = W * (i / W) + (i % W - 1):=by omega
    calc (i - 1) / W = (W * (i / W) + (i % W - 1)) / W:=congrArg (· / W) e
     _ = i / W:=zwa (by omega)
   have hm2:=zo9 (i:=i) (w:=W) (by omega) p1
   rw [hat _ (by omega),hd2,hm2,if_pos (by omega),hv,show i / W * w + (i % W - 1) = i / W * w + i % W - 1 by omega,p2]
 ·have hv:=hat i hi
  rw [if_neg q] at hv
  have hlost : wy W (z4z w l W H (min W w) (min H h) 0) i = false:=zq.2 ⟨fun e=>by rw [hv] at e; simp at e,fun e=>by rw [hv] at e; simp at e⟩
  rw [hlost,if_neg (by decide),hv]
  split
  ·rw [z7s,if_neg (by omega)]
  ·rfl
theorem z38 (w h : Nat) (l : List zp) (W H : Nat) (hok : okG w h l = true) (h1 : 2 ≤ W) (h2 : W ≤ 80) (h3 : 1 ≤ H) (h4 : H ≤ 24) : okG W H (zfm w h l W H (min H h)) = true:=by
 rw [← zz4 w h l W H hok h1 h3]
 obtain ⟨w',h',e1,e2,g1,g2,g3,g4,hlen,hall⟩:=x9 hok
 obtain rfl : w = w':=by omega
 obtain rfl : h = h':=by omega
 refine zo0 h1 h2 h3 h4 (by rw [wx,zfr]) (zud W H _ h1 h3 (zfr _ _ _ _ _ _ _) fun i hi => ?_)
 rw [zfr] at hi
 rw [zwb hi,z9k]
 split
 ·rename_i q
  have hp:=zbi (w:=w) (h:=h) (x:=i % W) (y:=i / W) (by omega) (by omega)
  exact (hall _ (by omega)).1
 ·exact ka
theorem zt9 {w h : Nat} (h1 : 2 ≤ w) (h2 : w ≤ 80) (h3 : 1 ≤ h) (h4 : h ≤ 24) : okG w h (List.replicate (w * h) (32,0)) = true:=by
 refine zo0 h1 h2 h3 h4 (by simp) fun i hi => ?_
 rw [List.length_replicate] at hi
 refine ⟨by rw [zb9 hi]; exact ka,zq.2 ⟨fun e=>by rw [zb9 hi] at e; simp at e,fun e=>by rw [zb9 hi] at e; simp at e⟩⟩
theorem zta {w h : Nat} {l : List zp} (hok : okG w h l = true) : okG w h (l.drop w ++ List.replicate w (32,0)) = true:=by
 obtain ⟨w',h',e1,e2,h1,h2,h3,h4,hlen,hall⟩:=x9 hok
 obtain rfl : w = w':=by omega
 obtain rfl : h = h':=by omega
 have hwl : w ≤ l.length:=by rw [hlen]; exact Nat.le_mul_of_pos_right w h3
 have hat : ∀ i,i < l.length → cAt (l.drop w ++ List.replicate w (32,0)) i = if i + w < l.length then cAt l (i + w) else (32,0):=fun i hi=>by
  rw [z43,List.length_drop]
  by_cases q : i + w < l.length
  ·rw [if_pos q,if_pos (by omega),zkk,Nat.add_comm]
  ·rw [if_neg q,if_neg (by omega),zb9 (by omega)]
 refine zo0 h1 h2 h3 h4 (by simp; omega) fun i hi => ?_
 have hi2 : i < l.length:=by simp at hi; omega
 by_cases q : i + w < l.length
 ·obtain ⟨a,b⟩:=hall _ q
  obtain ⟨b1,b2⟩:=zq.1 b
  rw [Nat.add_mod_right] at b1 b2
  have hv:=hat i hi2
  rw [if_pos q] at hv
  refine ⟨by rw [hv]; exact a,zq.2 ⟨fun e => ?_,fun e => ?_⟩⟩
  ·rw [hv] at e ⊢
   obtain ⟨c1,c2⟩:=b1 e
   have hn:=zt5 (i:=i + w) (by omega) h3 hlen q (by rw [Nat.add_mod_right]; exact c1)
   exact ⟨c1,by rw [hat _ (by omega),if_pos (by omega),← c2]; congr 1; omega⟩
  ·rw [hv] at e ⊢
   obtain ⟨c1,c2⟩:=b2 e
   have hp:=ztp c1
   exact ⟨c1,by rw [hat _ (by omega),if_pos (by omega),← c2]; congr 1; omega⟩
 ·have hv:=hat i hi2
  rw [if_neg q] at hv
  refine ⟨by rw [hv]; exact ka,zq.2 ⟨fun e=>by rw [hv] at e; simp at e,fun e=>by rw [hv] at e; simp at e⟩⟩
end
section
open Go Go.RowKit
variable {T0 : Gh} [TabS T0]
set_option maxRecDepth 100000
attribute [local irreducible] zz zg AW AL AO QY qh z_ rsA Opd xh vA gvA zy qb slA jl ipA rpA EqK LnK IxK LdK FaK FdK
end
section
open Go Go.RowKit
variable {T0 : Gh} [TabS T0]
set_option maxRecDepth 100000
theorem z3h (w h : Int) (l : List zp) (x y r : Int) (he : (zm_ w h l x y r).2 = 0) : okG (zm_ w h l x y r).1.1 (zm_ w h l x y r).1.2.1 (zm_ w h l x y r).1.2.2 = true:=by
 unfold zm_ at he ⊢
 split at he
 ·rename_i hc
  rw [if_pos hc]
  obtain ⟨⟨hok,x1,x2,y1,y2⟩,hs,hx⟩:=hc
  obtain ⟨w',h',rfl,rfl,_,_,_,_,hlen,_⟩:=x9 hok
  have h1:=wq r
  have:=zbi (w:=w') (h:=h') (x:=x.toNat + (zh r).length - 1) (y:=y.toNat) (by omega) (by omega)
  show okG w' h' (zbq l (y.toNat * w' + x.toNat) (zh r)) = true
  exact zui w' h' l _ _ hok (by omega) (zhl w' _ _ r hs (by omega)) (zeg hs)
 ·simp at he
theorem zd0 (n : Nat) : ∀ j,j < (List.replicate n ((32,0) : zp)).length → xv (cAt (List.replicate n (32,0)) j) = true:=fun j hj=>by
 rw [zb9 (by simpa using hj)]; exact ka
theorem zwm (w h : Int) (l : List zp) (a b : Int) (he : (jq w h l a b).2 = 0) : okG (jq w h l a b).1.1 (jq w h l a b).1.2.1 (jq w h l a b).1.2.2 = true:=by
 unfold jq at he ⊢
 split at he
 ·rename_i hc
  rw [if_pos hc]
  obtain ⟨hok,x1,x2,x3⟩:=hc
  obtain ⟨w',h',rfl,rfl,_,_,_,_,hlen,_⟩:=x9 hok
  show okG w' h' (zbq l a.toNat (List.replicate (b - a).toNat (32,0))) = true
  exact zui w' h' l _ _ hok (by rw [List.length_replicate]; omega) (zf5 _ _ _) (zd0 _)
 ·simp at he
theorem zrf (w h : Int) (l : List zp) (W H : Int) (hok : okG w h l = true) : (zmt w h l W H).1.2.2.length ≤ 3000 ∧ ((zmt w h l W H).2 = 0 → okG (zmt w h l W H).1.1 (zmt w h l W H).1.2.1 (zmt w h l W H).1.2.2 = true) ∧ (ze0 W H).1.2.2.length ≤ 3000 ∧ ((ze0 W H).2 = 0 → okG (ze0 W H).1.1 (ze0 W H).1.2.1 (ze0 W H).1.2.2 = true) ∧ (ze0 W H).2 = (zmt w h l W H).2:=by
 unfold zmt ze0
 rw [if_pos hok]
 by_cases hs : xl W H = true
 ·rw [if_pos hs,if_pos hs]
  obtain ⟨w,h,rfl,rfl,_⟩:=x9 hok
  obtain ⟨W,H,rfl,rfl,h1,h2,h3,h4⟩:=wt hs
  have hb:=vl h2 h4
  refine ⟨?_,fun _=>z38 w h l W H hok h1 h2 h3 h4, ?_,fun _=>zt9 h1 h2 h3 h4,rfl⟩
  ·show (zfm w h l W H (min H h)).length ≤ 3000
   rw [ux]; omega
  ·show (List.replicate (W * H) ((32,0) : zp)).length ≤ 3000
   rw [List.length_replicate]; omega
 ·rw [if_neg hs,if_neg hs]
  refine ⟨Nat.zero_le _,fun e => ?_,Nat.zero_le _,fun e => ?_,rfl⟩ <;> simp at e
theorem ur (w h : Int) (l : List zp) (hok : okG w h l = true) : (wc w h l).length = l.length ∧ okG w h (wc w h l) = true:=by
 obtain ⟨w',h',rfl,rfl,_,_,h3,_,hlen,_⟩:=x9 hok
 have hwl : w' ≤ l.length:=by rw [hlen]; exact Nat.le_mul_of_pos_right w' h3
 rw [wc,if_pos hok,Int.toNat_natCast]
 exact ⟨by simp; omega,zta hok⟩
attribute [local irreducible] zz zg AW AL AO QY qh z_ rsA Opd xh vA gvA zy qb slA jl ipA rpA EqK LnK IxK LdK FaK FdK
end
end Go.Proofs.YtgfmjmfphmjdkaaGreatDoor
