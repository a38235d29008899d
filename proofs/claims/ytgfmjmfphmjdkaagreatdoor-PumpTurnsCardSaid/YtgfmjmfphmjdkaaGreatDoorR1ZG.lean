/- Several texts in one: see the comment ahead of each. No condition. -/
import Derived.Test.YtgfmjmfphmjdkaaGreatDoorR1ZW
set_option linter.unusedSimpArgs false
set_option linter.unusedVariables false
set_option linter.unusedSectionVars false
namespace Go.Proofs.YtgfmjmfphmjdkaaGreatDoor
set_option maxHeartbeats 4000000
section
open Go Go.RowKit
set_option maxRecDepth 100000
def cAt (l : List zp) (i : Nat) : zp:=l[i]?.getD (0,0)
theorem zng {l : List zp} {i : Nat} (h : i < l.length) : l[i]? = some (cAt l i):=by simp [cAt,h]
theorem uu {a b : List zp} (hl : a.length = b.length) (h : ∀ i,i < a.length → cAt a i = cAt b i) : a = b:=by
 apply List.ext_getElem? ; intro i
 by_cases hi : i < a.length
 ·rw [zng hi,zng (l:=b) (by omega),h i hi]
 ·rw [List.getElem?_eq_none (by omega),List.getElem?_eq_none (by omega)]
theorem zku (l : List zp) (a i : Nat) : cAt (l.drop a) i = cAt l (a + i):=by simp [cAt,List.getElem?_drop]
theorem zfx {l : List zp} {n i : Nat} (h : i < n) : cAt (l.take n) i = cAt l i:=by simp [cAt,List.getElem?_take,h]
theorem zb5 (l : List zp) (j i : Nat) (c : zp) (hj : j < l.length) : cAt (l.set j c) i = if i = j then c else cAt l i:=by
 unfold cAt; rw [List.getElem?_set]
 by_cases h : j = i
 ·subst h; simp [hj]
 ·simp [h,Ne.symm h]
theorem yz {n i : Nat} {c : zp} (h : i < n) : cAt (List.replicate n c) i = c:=by simp [cAt,List.getElem?_replicate,h]
theorem zb6 {l c : List zp} {off i : Nat} (h : off + c.length ≤ l.length) : cAt (ovr l off c) i = if i < off then cAt l i else if i < off + c.length then cAt c (i - off) else cAt l i:=by
 unfold cAt ovr
 have h1 : (l.take off).length = off:=by rw [List.length_take]; omega
 by_cases h2 : i < off
 ·rw [if_pos h2,List.append_assoc,List.getElem?_append_left (by omega),List.getElem?_take,if_pos h2]
 ·rw [if_neg h2]
  by_cases h3 : i < off + c.length
  ·rw [if_pos h3,List.getElem?_append_left (by rw [List.length_append]; omega),List.getElem?_append_right (by omega),h1]
  ·rw [if_neg h3,List.getElem?_append_right (by rw [List.length_append]; omega),List.getElem?_drop,List.length_append,h1]
   congr 2; omega
theorem zx_ {a b : List zp} {i : Nat} : cAt (a ++ b) i = if i < a.length then cAt a i else cAt b (i - a.length):=by
 unfold cAt
 split
 ·rename_i h; rw [List.getElem?_append_left h]
 ·rename_i h; rw [List.getElem?_append_right (by omega)]
def ko (w : Nat) (l : List zp) (i : Nat) : Bool :=
 if (cAt l i).2 = 1 then decide (i % w = w - 1) || !decide (cAt l (i + 1) = ((cAt l i).1,2)) else if (cAt l i).2 = 2 then decide (i % w = 0) || !decide (cAt l (i - 1) = ((cAt l i).1,1)) else false
def qu (w h : Int) : Bool:=decide (2 ≤ w) && decide (w ≤ 80) && decide (1 ≤ h) && decide (h ≤ 24)
def OkG (w h : Int) (l : List zp) : Prop:=(2 ≤ w ∧ w ≤ 80 ∧ 1 ≤ h ∧ h ≤ 24) ∧ (l.length : Int) = w * h ∧ ∀ i,i < l.length → xo (cAt l i) = true ∧ ko w.toNat l i = false
noncomputable instance (w h : Int) (l : List zp) : Decidable (OkG w h l):=Classical.propDecidable _
noncomputable def okG (w h : Int) (l : List zp) : Bool:=decide (OkG w h l)
def ze5 (w : Nat) (l : List zp) : List zp:=(List.range l.length).map fun i=>if ko w l i then (32,0) else cAt l i
theorem zah (w : Nat) (l : List zp) : (ze5 w l).length = l.length:=by simp [ze5]
theorem uo {w : Nat} {l : List zp} {i : Nat} (h : i < l.length) : cAt (ze5 w l) i = if ko w l i then (32,0) else cAt l i:=by
 unfold ze5; rw [cAt,List.getElem?_map]; simp [h]
theorem kb : xo (32,0) = true:=by decide
def zz2 : List zp → zp → Bool
 |[],want=>decide (want = (0,0))
 |c :: r,want=>xo c && !((!decide (want = (0,0))) != decide (c.2 = 2) || (!decide (want = (0,0))) && !decide (c = want)) && zz2 r (if c.2 = 1 then (c.1,2) else (0,0))
def qdn (row : List zp) (want : zp) : Prop:=(∀ j,j < row.length → xo (cAt row j) = true ∧ ((cAt row j).2 = 1 → j + 1 < row.length ∧ cAt row (j + 1) = ((cAt row j).1,2)) ∧ ((cAt row j).2 = 2 → (j = 0 ∧ want = cAt row j) ∨ (1 ≤ j ∧ cAt row (j - 1) = ((cAt row j).1,1)))) ∧ (want ≠ (0,0) → 0 < row.length ∧ cAt row 0 = want)
theorem uh (c : zp) (r : List zp) : cAt (c :: r) 0 = c:=rfl
theorem wi (c : zp) (r : List zp) (j : Nat) : cAt (c :: r) (j + 1) = cAt r j:=by simp [cAt]
theorem zp4 : ∀ (row : List zp) (want : zp),(want = (0,0) ∨ want.2 = 2) → (zz2 row want = true ↔ qdn row want)
 |[],want,_=>by
  simp only [zz2,decide_eq_true_eq,qdn,List.length_nil]
  constructor
  ·intro h; exact ⟨fun j hj=>absurd hj (by omega),fun hn=>absurd h hn⟩
  ·intro h
   by_cases hw : want = (0,0)
   ·exact hw
   ·have:=(h.2 hw).1; omega
 |c :: r,want,hw=>by
  have ih:=zp4 r (if c.2 = 1 then (c.1,2) else (0,0)) (by split <;> simp)
  simp only [zz2,Bool.and_eq_true,ih]
  have hwant : (!((!decide (want = (0,0))) != decide (c.2 = 2) || (!decide (want = (0,0))) && !decide (c = want))) = true ↔ (c.2 = 2 → want = c) ∧ (want ≠ (0,0) → c = want):=by
   by_cases h0 : want = (0,0)
   ·subst h0
    by_cases h2 : c.2 = 2
    ·simp [h2]; intro h; rw [← h] at h2; simp at h2
    ·simp [h2]
   ·by_cases h2 : c.2 = 2
    ·simp [h0,h2]; exact fun h=>h.symm
    ·simp [h0,h2]
     intro h; subst h
     rcases hw with h | h
     ·exact h0 h
     ·exact h2 h
  rw [hwant]
  constructor
  ·rintro ⟨⟨h1,h2,h3⟩,h4,h5⟩
   refine ⟨fun j hj => ?_,fun hn=>⟨by simp,by rw [uh]; exact h3 hn⟩⟩
   cases j with
   |zero =>
    rw [uh]
    refine ⟨h1,fun hk => ?_,fun hk=>.inl ⟨rfl,h2 hk⟩⟩
    rw [if_pos hk] at h5
    have:=h5 (by simp)
    rw [wi]
    exact ⟨by simp; omega,this.2⟩
   |succ j =>
    rw [wi]
    have hj' : j < r.length:=by simpa using hj
    obtain ⟨a1,a2,a3⟩:=h4 j hj'
    refine ⟨a1,fun hk => ?_,fun hk=>.inr ⟨by omega, ?_⟩⟩
    ·have:=a2 hk
     rw [wi]; exact ⟨by simp; omega,this.2⟩
    ·rw [Nat.add_sub_cancel]
     rcases a3 hk with ⟨rfl,h⟩ | ⟨h6,h7⟩
     ·rw [uh]
      by_cases hc : c.2 = 1
      ·rw [if_pos hc] at h
       rw [← h]; exact Prod.ext rfl hc
      ·rw [if_neg hc] at h
       rw [← h] at hk; simp at hk
     ·obtain ⟨j,rfl⟩ : ∃ k,j = k + 1:=⟨j - 1,by omega⟩
      rw [wi]; simpa using h7
  ·rintro ⟨h1,h2⟩
   have h0:=h1 0 (by simp)
   rw [uh] at h0
   refine ⟨⟨h0.1,fun hk => ?_,fun hn=>by have:=(h2 hn).2; rwa [uh] at this⟩,fun j hj => ?_,fun hn => ?_⟩
   ·rcases h0.2.2 hk with ⟨_,h⟩ | ⟨h,_⟩
    ·exact h
    ·omega
   ·have hj1:=h1 (j + 1) (by simpa using hj)
    rw [wi] at hj1
    obtain ⟨a1,a2,a3⟩:=hj1
    refine ⟨a1,fun hk => ?_,fun hk => ?_⟩
    ·have:=a2 hk
     rw [wi] at this; exact ⟨by have:=this.1; simp at this; omega,this.2⟩
    ·rcases a3 hk with ⟨h,_⟩ | ⟨_,h⟩
     ·omega
     ·rw [Nat.add_sub_cancel] at h
      cases j with
      |zero =>
       left; rw [uh] at h
       have hc : c.2 = 1:=by rw [h]
       rw [if_pos hc]
       refine ⟨rfl,Prod.ext ?_ hk.symm⟩
       rw [h]
      |succ j=>right; rw [wi] at h; exact ⟨by omega,by rw [Nat.add_sub_cancel]; exact h⟩
   ·by_cases hc : c.2 = 1
    ·rw [if_pos hc]
     have:=h0.2.1 hc
     rw [wi] at this
     exact ⟨by have:=this.1; simp at this; omega,this.2⟩
    ·rw [if_neg hc] at hn; exact absurd rfl hn
def znt (row : List zp) : Bool:=zz2 row (0,0)
theorem zln (row : List zp) : znt row = true ↔ ∀ j,j < row.length → xo (cAt row j) = true ∧ ((cAt row j).2 = 1 → j + 1 < row.length ∧ cAt row (j + 1) = ((cAt row j).1,2)) ∧ ((cAt row j).2 = 2 → 1 ≤ j ∧ cAt row (j - 1) = ((cAt row j).1,1)):=by
 rw [znt,zp4 row (0,0) (.inl rfl)]
 constructor
 ·rintro ⟨h,_⟩ j hj
  obtain ⟨a,b,c⟩:=h j hj
  refine ⟨a,b,fun hk => ?_⟩
  rcases c hk with ⟨_,e⟩ | e
  ·rw [← e] at hk; simp at hk
  ·exact e
 ·intro h
  refine ⟨fun j hj => ?_,fun hn=>absurd rfl hn⟩
  obtain ⟨a,b,c⟩:=h j hj
  exact ⟨a,b,fun hk=>.inr (c hk)⟩
theorem ql {w : Nat} {l : List zp} {i : Nat} : ko w l i = false ↔ ((cAt l i).2 = 1 → i % w ≠ w - 1 ∧ cAt l (i + 1) = ((cAt l i).1,2)) ∧ ((cAt l i).2 = 2 → i % w ≠ 0 ∧ cAt l (i - 1) = ((cAt l i).1,1)):=by
 unfold ko
 by_cases h1 : (cAt l i).2 = 1
 ·simp [h1]
 ·by_cases h2 : (cAt l i).2 = 2
  ·simp [h2]
  ·simp [h1,h2]
theorem z4k (w h : Nat) (l : List zp) (hw : 2 ≤ w) (hl : l.length = w * h) : (∀ y,y < h → znt ((l.drop (y * w)).take ((y + 1) * w - y * w)) = true) ↔ ∀ i,i < l.length → xo (cAt l i) = true ∧ ko w l i = false:=by
 have hlen : ∀ y,y < h → ((l.drop (y * w)).take ((y + 1) * w - y * w)).length = w:=fun y hy=>by
  have h1 : (y + 1) * w ≤ h * w:=Nat.mul_le_mul_right _ hy
  have h2 : (y + 1) * w = y * w + w:=by rw [Nat.add_mul,Nat.one_mul]
  rw [List.length_take,List.length_drop,hl,Nat.mul_comm w h]; omega
 have hat : ∀ y x,x < w → cAt ((l.drop (y * w)).take ((y + 1) * w - y * w)) x = cAt l (y * w + x):=fun y x hx=>by
  have h2 : (y + 1) * w = y * w + w:=by rw [Nat.add_mul,Nat.one_mul]
  rw [zfx (by omega),zku]
 constructor
 ·intro H i hi
  have hy : i / w < h:=by rw [Nat.div_lt_iff_lt_mul (by omega),Nat.mul_comm]; omega
  have hx : i % w < w:=Nat.mod_lt _ (by omega)
  have hd : i / w * w + i % w = i:=by rw [Nat.mul_comm]; exact Nat.div_add_mod i w
  obtain ⟨a,b,c⟩:=(zln _).1 (H (i / w) hy) (i % w) (by rw [hlen _ hy]; exact hx)
  rw [hat _ _ hx,hd] at a b c
  rw [hlen _ hy] at b
  refine ⟨a,ql.2 ⟨fun hk => ?_,fun hk => ?_⟩⟩
  ·obtain ⟨b1,b2⟩:=b hk
   rw [hat _ _ b1,← Nat.add_assoc,hd] at b2
   exact ⟨by omega,b2⟩
  ·obtain ⟨c1,c2⟩:=c hk
   rw [hat _ _ (by omega),show i / w * w + (i % w - 1) = i - 1 by omega] at c2
   exact ⟨by omega,c2⟩
 ·intro H y hy
  rw [zln]
  intro x hx
  rw [hlen y hy] at hx ⊢
  have hi : y * w + x < l.length:=by
   have h1 : (y + 1) * w ≤ h * w:=Nat.mul_le_mul_right _ hy
   rw [Nat.add_mul,Nat.one_mul] at h1
   rw [hl,Nat.mul_comm w h]; omega
  have hm : (y * w + x) % w = x:=by rw [Nat.add_comm,Nat.add_mul_mod_self_right,Nat.mod_eq_of_lt hx]
  obtain ⟨a,b⟩:=H _ hi
  obtain ⟨b1,b2⟩:=ql.1 b
  rw [hat y x hx]
  rw [hm] at b1 b2
  refine ⟨a,fun hk => ?_,fun hk => ?_⟩
  ·obtain ⟨c1,c2⟩:=b1 hk
   have hx1 : x + 1 < w:=by omega
   exact ⟨hx1,by rw [hat y _ hx1,← Nat.add_assoc]; exact c2⟩
  ·obtain ⟨c1,c2⟩:=b2 hk
   exact ⟨by omega,by rw [hat y _ (by omega),show y * w + (x - 1) = y * w + x - 1 by omega]; exact c2⟩
theorem zck : Sub (vA (.slice none 0 0)) (slA qg []):=fun _ _ h=>by
 rw [h.eq]; exact .of ⟨none,0,0,rfl,rfl,Nat.le_refl _,Nat.zero_le _,fun _=>rfl,fun h=>absurd rfl h⟩
theorem u_ {n : Int} : Sub (zt [z0 [I 0,I 0,vA (.slice none 0 0)],I n]) (zt [qp 0 0 [],I n]):=ka (qb (vx (qb (Sub.refl _) (qb (Sub.refl _) (qb zck vj)))) (qb (Sub.refl _) vj))
end
section
open Go Go.RowKit
variable {T0 : Gh} [TabS T0]
attribute [local irreducible] z_ zg AW AL AO QY qd zx rsA Opd xi vA gvA zt z0 slA jc ipA rpA EqK LnK IxK LdK FaK FdK
set_option maxRecDepth 100000
theorem zzw (p : List zp) (n k : Nat) (z d : zp) (hp : p.length = k) (h : k < n) : (p ++ List.replicate (n - k) d).set k z = (p ++ [z]) ++ List.replicate (n - (k + 1)) d:=by
 have e : n - k = (n - (k + 1)) + 1:=by omega
 subst hp
 rw [e,List.replicate_succ,List.set_append_right _ _ (Nat.le_refl _),Nat.sub_self,List.set_cons_zero,List.append_assoc]; rfl
theorem zxk : AP Tryz.prog T0 143 [] (zhr (32,0)):=by
 refine za Tryz.func143 rfl (by decide) Tryz.ntmps143 rfl ?_
 repeat' (first
 |refine g6_ ?_ | (refine zb ?_ ?_ <;> intro hb <;> try exact no_) | (refine sx_ ?_ <;> intro bb) | (refine su_ ?_ <;> intro u hu1 hu2) | fail)
 exact ⟨_,[],rs_,List.nil_sublist _,Sub.refl _,rfl⟩
theorem zrc (w h : Nat) (hb : w * h ≤ 100000) : AF Tryz.prog T0 155 [I w,I h] [] (fun A M' => ∃ u,A = z0 [I w,I h,vA u] ∧ M' = [zx qg 87 u (List.replicate (w * h) (32,0))]):=by
 have hnn : (0 : Int) ≤ ((w * h : Nat) : Int):=Int.natCast_nonneg _
 refine za Tryz.func155 rfl (by decide) Tryz.ntmps155 rfl ?_
 repeat' (first
 |refine z67 ?_ | (refine zb ?_ ?_ <;> intro hb <;> try exact no_) | (refine sx_ ?_ <;> intro bb) | (refine su_ ?_ <;> intro u hu1 hu2) | fail)
 simp only [List.length_replicate]
 refine zyt (fun k : Nat=>[(0,I w),(1,I h),(4,vA (.pointer (some ⟨bb,0,none⟩))),(5,vA u),(12,I (w * h : Nat)),(13,I k)]) (fun k=>[zx qg 87 u (List.replicate k (32,0) ++ List.replicate (w * h - k) (0,0)),qd bb 27 [I 0,I 0,vA (.slice none 0 0)]]) (fun k=>k ≤ w * h) (fun k=>w * h - k) 0 (Nat.zero_le _) wk_ rfl ?_
 rintro k h1
 by_cases hlt : k < w * h
 ·repeat' (first
  |refine z67 ?_ | (refine zb ?_ ?_ <;> intro hb <;> try exact no_) | (refine sx_ ?_ <;> intro bb) | (refine su_ ?_ <;> intro u hu1 hu2) | fail)
  refine ⟨k + 1,by omega,by omega,wk_, ?_⟩
  rw [zzw _ _ _ _ _ (by simp) hlt,List.replicate_succ']
 ·repeat' (first
  |refine z67 ?_ | (refine zb ?_ ?_ <;> intro hb <;> try exact no_) | (refine sx_ ?_ <;> intro bb) | (refine su_ ?_ <;> intro u hu1 hu2) | fail)
  refine ⟨_,_,rs_,(List.Sublist.cons_cons _ (List.nil_sublist _)),u,rfl, ?_⟩
  rw [show w * h - k = 0 by omega,show k = w * h by omega,List.replicate_zero,List.append_nil]
theorem z8t (w h : Int) (l : List zp) (hl : l.length ≤ 100000) : AF Tryz.prog T0 162 [qp w h l] [] (fun A M' => ∃ u,A = z0 [I w,I h,vA u] ∧ M' = [zx qg 87 u l]):=by
 refine za Tryz.func162 rfl (by decide) Tryz.ntmps162 rfl ?_
 repeat' (first
 |refine z67 ?_ | (refine zb ?_ ?_ <;> intro hb <;> try exact no_) | (refine sx_ ?_ <;> intro bb) | (refine su_ ?_ <;> intro u hu1 hu2) | fail)
 refine ⟨_,_,rs_,(List.Sublist.cons_cons _ (List.nil_sublist _)),u,rfl, ?_⟩
 rw [List.length_replicate,List.take_length,show ovr (List.replicate l.length ((0,0) : zp)) 0 l = l by simp [ovr]]
def zb_ (w h : Int) : (Int × Int × List zp) × Int:=if qu w h then ((w,h,List.replicate (w.toNat * h.toNat) (32,0)),0) else ((0,0,[]),4)
def yi (x : (Int × Int × List zp) × Int) : AV:=zt [qp x.1.1 x.1.2.1 x.1.2.2,I x.2]
theorem ks {w h : Nat} (hw : w ≤ 80) (hh : h ≤ 24) : w * h ≤ 1920:=Nat.mul_le_mul hw hh
theorem kx {w h : Int} (hs : qu w h = true) : ∃ w' h' : Nat,w = w' ∧ h = h' ∧ 2 ≤ w' ∧ w' ≤ 80 ∧ 1 ≤ h' ∧ h' ≤ 24:=by
 simp [qu] at hs
 exact ⟨w.toNat,h.toNat,by omega,by omega,by omega,by omega,by omega,by omega⟩
theorem z84 (w h : Nat) (h1 : 2 ≤ w) (h2 : w ≤ 80) (h3 : 1 ≤ h) (h4 : h ≤ 24) : AF Tryz.prog T0 114 [I w,I h] [] (fun A M' => ∃ u,A = zt [z0 [I w,I h,vA u],I 0] ∧ M' = [zx qg 87 u (List.replicate (w * h) (32,0))]):=by
 have hb:=ks h2 h4
 refine za Tryz.func114 rfl (by decide) Tryz.ntmps114 rfl ?_
 repeat' (first
 |(refine zj rfl rfl rfl rfl os_ (zrc _ _ (by omega)) ?_; rintro _ _ ⟨u,rfl,rfl⟩; refine zu (List.Mem.head _) fun hu1 hu2 => ?_) | refine g6_ ?_ | (refine zb ?_ ?_ <;> intro hb <;> try exact no_) | (refine sx_ ?_ <;> intro bb) | (refine su_ ?_ <;> intro u hu1 hu2) | fail)
 exact ⟨_,_,rs_,sl_,u,rfl,rfl⟩
theorem ztn (w h : Int) : AP Tryz.prog T0 114 [I w,I h] (yi (zb_ w h)):=by
 by_cases hs : qu w h = true
 ·obtain ⟨w,h,rfl,rfl,h1,h2,h3,h4⟩:=kx hs
  have:=(z84 (T0:=T0) w h h1 h2 h3 h4).frz1 ze8
  simpa only [zb_,hs,if_true,yi,Int.toNat_natCast] using this
 ·have hs' : ¬ (2 ≤ w ∧ w ≤ 80 ∧ 1 ≤ h ∧ h ≤ 24):=by simpa [qu,and_assoc] using hs
  refine za Tryz.func114 rfl (by decide) Tryz.ntmps114 rfl ?_
  repeat' (first
  |(refine zj rfl rfl rfl rfl os_ (zrc _ _ (by omega)) ?_; rintro _ _ ⟨u,rfl,rfl⟩; refine zu (List.Mem.head _) fun hu1 hu2 => ?_) | refine g6_ ?_ | (refine zb ?_ ?_ <;> intro hb <;> try exact no_) | (refine sx_ ?_ <;> intro bb) | (refine su_ ?_ <;> intro u hu1 hu2) | fail)
  refine ⟨_,[],rs_,List.nil_sublist _, ?_,rfl⟩
  simp only [zb_,hs,yi]; exact u_
end
section
open Go Go.RowKit
variable {T0 : Gh} [TabS T0]
attribute [local irreducible] z_ zg AW AL AO QY qd zx rsA Opd xi vA gvA zt z0 slA jc ipA rpA EqK LnK IxK LdK FaK FdK
set_option maxRecDepth 100000
theorem zu9 (row : List zp) (i : Nat) (h : i < row.length) (want : zp) : zz2 (row.drop i) want = (xo (cAt row i) && !((!decide (want = (0,0))) != decide ((cAt row i).2 = 2) || (!decide (want = (0,0))) && !decide (cAt row i = want)) && zz2 (row.drop (i + 1)) (if (cAt row i).2 = 1 then ((cAt row i).1,2) else (0,0))):=by
 have e : row.drop i = cAt row i :: row.drop (i + 1):=by
  rw [List.drop_eq_getElem_cons h]; congr 1; simp [cAt,h]
 rw [e,zz2]
theorem zw0 (row : List zp) (hl : row.length ≤ 100000) : AP Tryz.prog T0 142 [slA qg row] (B (znt row)):=by
 refine za Tryz.func142 rfl (by decide) Tryz.ntmps142 rfl ?_
 repeat' (first
 |refine qax ?_ | (refine zb ?_ ?_ <;> intro hb <;> try exact no_) | (refine sx_ ?_ <;> intro bb) | (refine su_ ?_ <;> intro u hu1 hu2) | fail)
 refine zjj (fun (k : Nat) (want : zp)=>[(3,vA (.pointer (some ⟨bb,0,none⟩))),(8,slA qg row),(9,I row.length),(10,I k)]) (fun k want=>[qd bb 87 [R want.1,I want.2]]) (fun k want=>k ≤ row.length ∧ znt row = zz2 (row.drop k) want) (fun k _=>row.length - k) 0 (0,0) ⟨Nat.zero_le _,rfl⟩ wk_ sl_ ?_
 rintro k ⟨w1,w2⟩ ⟨h1,h2⟩
 by_cases hlt : k < row.length
 ·have hst:=zu9 row k hlt (w1,w2)
  rw [← h2] at hst
  have hat:=zng hlt
  generalize cAt row k = c at *
  obtain ⟨c1,c2⟩:=c
  repeat' (first
  |refine qax ?_ | (refine zb ?_ ?_ <;> intro hb <;> try exact no_) | (refine sx_ ?_ <;> intro bb) | (refine su_ ?_ <;> intro u hu1 hu2) | fail)
  ·refine ⟨_,[],rs_,List.nil_sublist _,Sub.eq (congrArg B ?_),rfl⟩
   rw [eq_comm,hst]; simp_all
  ·refine ⟨_,[],rs_,List.nil_sublist _,Sub.eq (congrArg B ?_),rfl⟩
   rw [eq_comm,hst,Bool.and_eq_false_iff,Bool.and_eq_false_iff]
   left; right
   simp only [Bool.not_eq_false',Bool.or_eq_true]
   simp only [bne_iff_ne,ne_eq,Bool.and_eq_true,Bool.not_eq_true',decide_eq_false_iff_not,beq_eq_false_iff_ne,Bool.not_eq_true] at hb ⊢
   exact hb
  ·refine ⟨k + 1,(c1,2),⟨by omega, ?_⟩,by omega,wk_,sl_⟩
   rw [hst]; simp_all
  ·refine ⟨k + 1,(0,0),⟨by omega, ?_⟩,by omega,wk_,sl_⟩
   rename_i e1 _ e2
   have m : (!((!decide ((w1,w2) = ((0,0) : zp))) != decide ((c1,c2).2 = 2) || (!decide ((w1,w2) = ((0,0) : zp))) && !decide ((c1,c2) = (w1,w2)))) = true:=by
    clear hst h2 e1 hat
    by_cases a : (w1,w2) = ((0,0) : zp) <;> by_cases b : c2 = 2 <;> by_cases d : (c1,c2) = (w1,w2) <;> simp_all
    all_goals omega
   rw [hst,m,if_neg hb]; simp_all
 ·repeat' (first
  |refine qax ?_ | (refine zb ?_ ?_ <;> intro hb <;> try exact no_) | (refine sx_ ?_ <;> intro bb) | (refine su_ ?_ <;> intro u hu1 hu2) | fail)
  refine ⟨_,[],rs_,List.nil_sublist _,Sub.eq (congrArg B ?_),rfl⟩
  rw [h2,List.drop_of_length_le (by omega)]; rfl
theorem zo1 (w h : Int) (l : List zp) : AP Tryz.prog T0 104 [qp w h l] (B (okG w h l)):=by
 by_cases hs : qu w h = true
 ·obtain ⟨w,h,rfl,rfl,h1,h2,h3,h4⟩:=kx hs
  have hb:=ks h2 h4
  have hnn : (0 : Int) ≤ ((w * h : Nat) : Int):=Int.natCast_nonneg _
  by_cases hlen : l.length = w * h
  ·have hl : l.length ≤ 3000:=by omega
   have hro:=z4k w h l h1 hlen
   have hok : okG w h l = true ↔ ∀ y,y < h → znt ((l.drop (y * w)).take ((y + 1) * w - y * w)) = true:=by
    rw [hro,okG,decide_eq_true_eq,OkG]
    constructor
    ·rintro ⟨_,_,k⟩; simpa using k
    ·intro k; exact ⟨by omega,by rw [hlen]; simp,by simpa using k⟩
   refine za Tryz.func104 rfl (by decide) Tryz.ntmps104 rfl ?_
   repeat' (first
   |refine z8o ?_ | (refine zb ?_ ?_ <;> intro hb <;> try exact no_) | (refine sx_ ?_ <;> intro bb) | (refine su_ ?_ <;> intro u hu1 hu2) | fail)
   all_goals first | exact e1_ | skip
   refine zee (fun y : Nat=>[(1,vA (.pointer (some ⟨bb,0,none⟩))),(34,I h),(35,I y)]) (fun _=>[qd bb 27 [I w,I h,slA qg l]]) (fun y=>y ≤ h ∧ ∀ y',y' < y → znt ((l.drop (y' * w)).take ((y' + 1) * w - y' * w)) = true) (fun y=>h - y) 0 ⟨Nat.zero_le _,fun _ k=>absurd k (Nat.not_lt_zero _)⟩ wk_ sl_ ?_
   rintro y ⟨i1,i2⟩
   by_cases hlt : y < h
   ·have m1 : (y + 1) * w = y * w + w:=by rw [Nat.add_mul,Nat.one_mul]
    have m2 : (y + 1) * w ≤ l.length:=by rw [hlen,Nat.mul_comm w h]; exact Nat.mul_le_mul_right _ hlt
    have m3 : (0 : Int) ≤ ((y * w : Nat) : Int):=Int.natCast_nonneg _
    have m4 : (0 : Int) ≤ (((y + 1) * w : Nat) : Int):=Int.natCast_nonneg _
    repeat' (first
    |refine z8o ?_ | (refine zb ?_ ?_ <;> intro hb <;> try exact no_) | (refine sx_ ?_ <;> intro bb) | (refine su_ ?_ <;> intro u hu1 hu2) | fail)
    ·refine ⟨_,[],rs_,List.nil_sublist _,Sub.eq (congrArg B ?_),rfl⟩
     rw [eq_comm,← Bool.not_eq_true,hok]
     intro k; rw [k y hlt] at hb; cases hb
    ·refine ⟨y + 1,⟨by omega,fun y' hy => ?_⟩,by omega,wk_,sl_⟩
     by_cases e : y' = y
     ·subst e; exact hb
     ·exact i2 y' (by omega)
   ·repeat' (first
    |refine z8o ?_ | (refine zb ?_ ?_ <;> intro hb <;> try exact no_) | (refine sx_ ?_ <;> intro bb) | (refine su_ ?_ <;> intro u hu1 hu2) | fail)
    refine ⟨_,[],rs_,List.nil_sublist _,Sub.eq (congrArg B ?_),rfl⟩
    exact (hok.2 fun y' hy=>i2 y' (by omega)).symm
  ·have hok : okG w h l = false:=by
    rw [okG,decide_eq_false_iff_not]; rintro ⟨_,k,_⟩; exact hlen (by rw [← Int.natCast_mul] at k; omega)
   rw [hok]
   refine za Tryz.func104 rfl (by decide) Tryz.ntmps104 rfl ?_
   repeat' (first
   |refine z8o ?_ | (refine zb ?_ ?_ <;> intro hb <;> try exact no_) | (refine sx_ ?_ <;> intro bb) | (refine su_ ?_ <;> intro u hu1 hu2) | fail)
   all_goals first | exact ⟨_,[],rs_,List.nil_sublist _,Sub.refl _,rfl⟩ | (exfalso; omega)
 ·have hs' : ¬ (2 ≤ w ∧ w ≤ 80 ∧ 1 ≤ h ∧ h ≤ 24):=by simpa [qu,and_assoc] using hs
  have hok : okG w h l = false:=by
   rw [okG,decide_eq_false_iff_not]; rintro ⟨k,_,_⟩; exact hs' k
  rw [hok]
  refine za Tryz.func104 rfl (by decide) Tryz.ntmps104 rfl ?_
  repeat' (first
  |refine z8o ?_ | (refine zb ?_ ?_ <;> intro hb <;> try exact no_) | (refine sx_ ?_ <;> intro bb) | (refine su_ ?_ <;> intro u hu1 hu2) | fail)
  all_goals first | exact ⟨_,[],rs_,List.nil_sublist _,Sub.refl _,rfl⟩ | (exfalso; omega)
theorem z2_ (w h : Int) (l : List zp) (hl : l.length ≤ 3000) : AP Tryz.prog T0 104 [qp w h l] (B (okG w h l)):=zo1 w h l
theorem jd {w h : Int} {l : List zp} (hs : okG w h l = true) : ∃ w' h' : Nat,w = w' ∧ h = h' ∧ 2 ≤ w' ∧ w' ≤ 80 ∧ 1 ≤ h' ∧ h' ≤ 24 ∧ l.length = w' * h' ∧ ∀ i,i < l.length → xo (cAt l i) = true ∧ ko w' l i = false:=by
 obtain ⟨⟨a,b,c,d⟩,e,f⟩:=of_decide_eq_true hs
 obtain ⟨w',rfl⟩:=Int.eq_ofNat_of_zero_le (show 0 ≤ w by omega)
 obtain ⟨h',rfl⟩:=Int.eq_ofNat_of_zero_le (show 0 ≤ h by omega)
 exact ⟨w',h',rfl,rfl,by omega,by omega,by omega,by omega,by rw [← Int.natCast_mul] at e; omega,by simpa using f⟩
theorem zfw {w h x y : Nat} (hx : x < w) (hy : y < h) : y * w + x < w * h:=by
 have h1 : (y + 1) * w ≤ h * w:=Nat.mul_le_mul_right _ hy
 rw [Nat.add_mul,Nat.one_mul,Nat.mul_comm h w] at h1; omega
noncomputable def atR (w h : Int) (l : List zp) (x y : Int) : zp × Int:=if okG w h l = true ∧ 0 ≤ x ∧ x < w ∧ 0 ≤ y ∧ y < h then (cAt l (y.toNat * w.toNat + x.toNat),0) else ((0,0),1)
def at2 (x : zp × Int) : AV:=zt [zhr x.1,I x.2]
theorem qb9 (w h : Int) (l : List zp) (hl : l.length ≤ 3000) (x y : Int) : AP Tryz.prog T0 161 [qp w h l,I x,I y] (at2 (atR w h l x y)):=by
 by_cases hc : okG w h l = true ∧ 0 ≤ x ∧ x < w ∧ 0 ≤ y ∧ y < h
 ·have hc':=hc
  obtain ⟨hok,x1,x2,y1,y2⟩:=hc
  obtain ⟨w,h,rfl,rfl,h1,h2,h3,h4,hlen,_⟩:=jd hok
  obtain ⟨x,rfl⟩:=Int.eq_ofNat_of_zero_le x1
  obtain ⟨y,rfl⟩:=Int.eq_ofNat_of_zero_le y1
  have hp:=zfw (show x < w by omega) (show y < h by omega)
  have hb:=ks h2 h4
  have m3 : (0 : Int) ≤ ((y * w : Nat) : Int):=Int.natCast_nonneg _
  have hat:=zng (l:=l) (i:=y * w + x) (by omega)
  have cf : AP Tryz.prog T0 104 [qp w h l] (B true):=hok ▸ z2_ w h l hl
  refine za Tryz.func161 rfl (by decide) Tryz.ntmps161 rfl ?_
  repeat' (first
  |refine qb4 ?_ | (refine zb ?_ ?_ <;> intro hb <;> try exact no_) | (refine sx_ ?_ <;> intro bb) | (refine su_ ?_ <;> intro u hu1 hu2) | fail)
  all_goals first | (exfalso; simp [hok] at hb; omega) | skip
  refine ⟨_,[],rs_,List.nil_sublist _,Sub.eq ?_,rfl⟩
  simp only [at2,atR,if_pos hc',Int.toNat_natCast]; rfl
 ·refine za Tryz.func161 rfl (by decide) Tryz.ntmps161 rfl ?_
  repeat' (first
  |refine qb4 ?_ | (refine zb ?_ ?_ <;> intro hb <;> try exact no_) | (refine sx_ ?_ <;> intro bb) | (refine su_ ?_ <;> intro u hu1 hu2) | fail)
  all_goals first | (exfalso; exact hc ⟨by simp_all,by omega,by omega,by omega,by omega⟩) | skip
  refine ⟨_,[],rs_,List.nil_sublist _,Sub.eq ?_,rfl⟩
  simp only [at2,atR,if_neg hc]; rfl
end
section
open Go Go.RowKit
variable {T0 : Gh} [TabS T0]
attribute [local irreducible] z_ zg AW AL AO QY qd zx rsA Opd xi vA gvA zt z0 slA jc ipA rpA EqK LnK IxK LdK FaK FdK
set_option maxRecDepth 100000
def zak (l : List zp) (at_ : Nat) (cs : List zp) : List zp :=
 if cs = [] then l else
  let l1:=if (cAt l at_).2 = 2 then l.set (at_ - 1) (32,0) else l
  let l2:=if (cAt l1 (at_ + cs.length - 1)).2 = 1 then l1.set (at_ + cs.length) (32,0) else l1
  ovr l2 at_ cs
theorem z0t {l : List zp} {a : Nat} {cs : List zp} (h : a + cs.length ≤ l.length) : (zak l a cs).length = l.length:=by
 unfold zak
 split
 ·rfl
 ·simp only
  have e : ∀ (c : Prop) [Decidable c] (m : List zp) (j : Nat),(if c then m.set j (32,0) else m).length = m.length:=fun c _ m j=>by split <;> simp
  rw [qz (by rw [e,e]; exact h),e,e]
theorem qa5 (u : Value) (l : List zp) (a : Nat) (cs : List zp) (hl : l.length ≤ 100000) (h : a + cs.length ≤ l.length)
  (hA : cs ≠ [] → (cAt l a).2 = 2 → 1 ≤ a) (hB : cs ≠ [] → (cAt l (a + cs.length - 1)).2 = 1 → a + cs.length < l.length) :
  AF Tryz.prog T0 163 [vA u,I a,slA qg cs] [zx qg 87 u l] (fun _ M'=>M' = [zx qg 87 u (zak l a cs)]):=by
 by_cases hcs : cs = []
 ·have h0 : cs.length = 0:=by rw [hcs]; rfl
  refine za Tryz.func163 rfl (by decide) Tryz.ntmps163 rfl ?_
  repeat' (first
  |refine z67 ?_ | (refine zb ?_ ?_ <;> intro hb <;> try exact no_) | (refine sx_ ?_ <;> intro bb) | (refine su_ ?_ <;> intro u hu1 hu2) | fail)
  exact ⟨_,_,rs_,List.Sublist.refl _,by rw [zak,if_pos hcs]⟩
 ·have hpos : 0 < cs.length:=List.length_pos_iff.2 hcs
  have hat:=zng (l:=l) (i:=a) (by omega)
  have hA1:=hA hcs
  have hB1:=hB hcs
  have hB2 : 1 ≤ a → (cAt (l.set (a - 1) (32,0)) (a + cs.length - 1)).2 = 1 → a + cs.length < l.length:=fun h1=>by
   rw [zb5 _ _ _ _ (by omega),if_neg (by omega)]; exact hB1
  have htk : cs.take (a + cs.length - a) = cs:=List.take_of_length_le (by omega)
  refine za Tryz.func163 rfl (by decide) Tryz.ntmps163 rfl ?_
  repeat' (first
  |refine z67 ?_ | (refine zb ?_ ?_ <;> intro hb <;> try exact no_) | (refine sx_ ?_ <;> intro bb) | (refine su_ ?_ <;> intro u hu1 hu2) | fail)
  all_goals refine ⟨_,_,rs_,List.Sublist.refl _, ?_⟩
  all_goals rw [htk,zak,if_neg hcs]
  ·rename_i e1; simp only [if_pos e1,if_pos hb]
  ·rename_i e1; simp only [if_pos e1,if_neg hb]
  ·rename_i e1; simp only [if_neg e1,if_pos hb]
  ·rename_i e1; simp only [if_neg e1,if_neg hb]
theorem z5y (w h : Nat) (hb : w * h ≤ 100000) : AP Tryz.prog T0 155 [I w,I h] (qp w h (List.replicate (w * h) (32,0))):=(zrc w h hb).frz1 ze8
theorem zfl {w h j : Nat} (hw : 1 ≤ w) (h1 : 1 ≤ h) (e : j + 1 = w * h) : j % w = w - 1:=by
 obtain ⟨k,rfl⟩ : ∃ k,h = k + 1:=⟨h - 1,by omega⟩
 have : j = (w - 1) + w * k:=by rw [Nat.mul_add,Nat.mul_one] at e; omega
 rw [this,Nat.add_mul_mod_self_left,Nat.mod_eq_of_lt (by omega)]
theorem zvk {w : Nat} {l : List zp} {i : Nat} (hk : ko w l i = false) (h2 : (cAt l i).2 = 2) : 1 ≤ i:=by
 have:=((ql.1 hk).2 h2).1
 rcases Nat.eq_zero_or_pos i with h | h
 ·subst h; simp at this
 ·exact h
theorem zj4 {w h : Nat} {l : List zp} {i : Nat} (hw : 1 ≤ w) (h1 : 1 ≤ h) (hl : l.length = w * h) (hi : i < l.length) (hk : ko w l i = false) (h2 : (cAt l i).2 = 1) : i + 1 < l.length:=by
 have h3:=((ql.1 hk).1 h2).1
 rcases Nat.lt_or_ge (i + 1) l.length with h | h
 ·exact h
 ·exact absurd (zfl hw h1 (by omega)) h3
theorem zxg (w h : Nat) (u : Value) (l : List zp) (a : Nat) (cs : List zp) (hl : l.length = w * h) (hb : w * h ≤ 1920) (h1 : 1 ≤ w) (h2 : 1 ≤ h) (hok : ∀ i,i < l.length → xo (cAt l i) = true ∧ ko w l i = false) (hac : a + cs.length ≤ l.length) :
  AF Tryz.prog T0 163 [vA u,I a,slA qg cs] [zx qg 87 u l] (fun _ M'=>M' = [zx qg 87 u (zak l a cs)]) :=
 qa5 u l a cs (by omega) hac (fun hc=>by have:=List.length_pos_iff.2 hc; exact zvk (hok a (by omega)).2) (fun hc hk=>by
  have hp:=List.length_pos_iff.2 hc
  have:=zj4 h1 h2 hl (by omega) (hok (a + cs.length - 1) (by omega)).2 hk
  omega)
end
section
open Go Go.RowKit
variable {T0 : Gh} [TabS T0]
attribute [local irreducible] z_ zg AW AL AO QY qd zx rsA Opd xi vA gvA zt z0 slA jc ipA rpA EqK LnK IxK LdK FaK FdK
set_option maxRecDepth 100000
noncomputable def zlo (w h : Int) (l : List zp) (x y r : Int) : (Int × Int × List zp) × Int:=if (okG w h l = true ∧ 0 ≤ x ∧ x < w ∧ 0 ≤ y ∧ y < h) ∧ xq r = true ∧ x + (zh r).length ≤ w then ((w,h,zak l (y.toNat * w.toNat + x.toNat) (zh r)),0) else ((0,0,[]),1)
theorem z82 (w h : Nat) (l : List zp) (x y : Nat) (r : Int) (hl : l.length ≤ 3000) (hc : okG w h l = true ∧ (0 : Int) ≤ x ∧ (x : Int) < w ∧ (0 : Int) ≤ y ∧ (y : Int) < h) (hs : xq r = true) (hx : x + (zh r).length ≤ w) :
  AF Tryz.prog T0 124 [qp w h l,I x,I y,R r] [] (fun A M' => ∃ u,A = zt [z0 [I w,I h,vA u],I 0] ∧ M' = [zx qg 87 u (zak l (y * w + x) (zh r))]):=by
 obtain ⟨w',h',e1,e2,h1,h2,h3,h4,hlen,hall⟩:=jd hc.1
 obtain rfl : w = w':=by omega
 obtain rfl : h = h':=by omega
 have hn:=vg r
 have hp:=zfw (show x + (zh r).length - 1 < w by omega) (show y < h by omega)
 have hb:=ks h2 h4
 have m3 : (0 : Int) ≤ ((y * w : Nat) : Int):=Int.natCast_nonneg _
 have c1 : AP Tryz.prog T0 161 [qp w h l,I x,I y] (zt [zhr (cAt l (y * w + x)),I 0]):=(qb9 w h l hl x y).to (by simp only [at2,atR,if_pos hc,Int.toNat_natCast])
 have cl:=fun u=>zxg (T0:=T0) w h u l (y * w + x) (zh r) hlen hb (by omega) h3 hall (by omega)
 have co:=z8t (T0:=T0) w h l (by omega)
 clear hall
 refine za Tryz.func124 rfl (by decide) Tryz.ntmps124 rfl ?_
 repeat' (first
 |(apply zj rfl rfl rfl rfl (c:=co)
   case ha=>repeat' (first | exact wn | apply wm oo_)
   rintro _ _ ⟨u,rfl,rfl⟩; refine zu (List.Mem.head _) fun hu1 hu2 => ?_)
  |(apply zd rfl rfl rfl rfl (c:=cl _)
    case ha=>repeat' (first | exact wn | apply wm oo_)
    case hM=>repeat' (first | exact Pick.here | apply Pick.next)
    rintro _ _ rfl)
 |refine qb5 ?_ | (refine zb ?_ ?_ <;> intro hb <;> try exact no_) | (refine sx_ ?_ <;> intro bb) | (refine su_ ?_ <;> intro u hu1 hu2) | fail)
 all_goals first | (exfalso; simp [hs] at hb; omega) | skip
 exact ⟨_,_,rs_,sl_,u,rfl,rfl⟩
theorem z83 (w h : Int) (l : List zp) (x y r : Int) (hl : l.length ≤ 3000) : AP Tryz.prog T0 124 [qp w h l,I x,I y,R r] (yi (zlo w h l x y r)):=by
 by_cases hc : (okG w h l = true ∧ 0 ≤ x ∧ x < w ∧ 0 ≤ y ∧ y < h) ∧ xq r = true ∧ x + (zh r).length ≤ w
 ·have hc':=hc
  obtain ⟨⟨hok,x1,x2,y1,y2⟩,hs,hx⟩:=hc
  obtain ⟨w,h,rfl,rfl,_⟩:=jd hok
  obtain ⟨x,rfl⟩:=Int.eq_ofNat_of_zero_le x1
  obtain ⟨y,rfl⟩:=Int.eq_ofNat_of_zero_le y1
  have:=(z82 (T0:=T0) w h l x y r hl hc'.1 hs (by omega)).frz1 ze8
  simpa only [zlo,if_pos hc',yi,Int.toNat_natCast] using this
 ·have c1 : AP Tryz.prog T0 161 [qp w h l,I x,I y] (zt [zhr (atR w h l x y).1,I (atR w h l x y).2]):=qb9 w h l hl x y
  have hw : (atR w h l x y).2 = 0 → (okG w h l = true ∧ 0 ≤ x ∧ x < w ∧ 0 ≤ y ∧ y < h):=fun e=>by
   by_cases k : okG w h l = true ∧ 0 ≤ x ∧ x < w ∧ 0 ≤ y ∧ y < h
   ·exact k
   ·simp [atR,k] at e
  have hw2 : (atR w h l x y).2 = 0 → 0 ≤ x ∧ x ≤ 80:=fun e=>by
   obtain ⟨k,k1,k2,_⟩:=hw e
   obtain ⟨w',h',rfl,rfl,_,k3,_⟩:=jd k
   omega
  have hn:=vg r
  generalize (atR w h l x y).1 = c at *
  generalize (atR w h l x y).2 = e at *
  refine za Tryz.func124 rfl (by decide) Tryz.ntmps124 rfl ?_
  repeat' (first
  |(apply zj rfl rfl rfl rfl (c:=co)
    case ha=>repeat' (first | exact wn | apply wm oo_)
    rintro _ _ ⟨u,rfl,rfl⟩; refine zu (List.Mem.head _) fun hu1 hu2 => ?_)
   |(apply zd rfl rfl rfl rfl (c:=cl _)
     case ha=>repeat' (first | exact wn | apply wm oo_)
     case hM=>repeat' (first | exact Pick.here | apply Pick.next)
     rintro _ _ rfl)
  |refine qb5 ?_ | (refine zb ?_ ?_ <;> intro hb <;> try exact no_) | (refine sx_ ?_ <;> intro bb) | (refine su_ ?_ <;> intro u hu1 hu2) | fail)
  all_goals first | (exfalso; obtain ⟨⟨q1,q2⟩,q3⟩:=hb; exact hc ⟨hw q1,by simpa using q2,by omega⟩) | skip
  refine ⟨_,[],rs_,List.nil_sublist _, ?_,rfl⟩
  simp only [zlo,if_neg hc,yi]; exact u_
noncomputable def ji (w h : Int) (l : List zp) (a b : Int) : (Int × Int × List zp) × Int:=if okG w h l = true ∧ 0 ≤ a ∧ a ≤ b ∧ b ≤ l.length then ((w,h,zak l a.toNat (List.replicate (b - a).toNat (32,0))),0) else ((0,0,[]),1)
theorem z1p (w h : Nat) (l : List zp) (a b : Nat) (hl : l.length ≤ 3000) (hc : okG w h l = true) (hab : a ≤ b) (hbl : b ≤ l.length) :
  AF Tryz.prog T0 164 [qp w h l,I a,I b] [] (fun A M' => ∃ u,A = zt [z0 [I w,I h,vA u],I 0] ∧ M' = [zx qg 87 u (zak l a (List.replicate (b - a) (32,0)))]):=by
 obtain ⟨w',h',e1,e2,h1,h2,h3,h4,hlen,hall⟩:=jd hc
 obtain rfl : w = w':=by omega
 obtain rfl : h = h':=by omega
 have hb:=ks h2 h4
 have c1 : AP Tryz.prog T0 104 [qp w h l] (B true):=hc ▸ z2_ w h l hl
 have c2 : AP Tryz.prog T0 155 [I (b - a : Nat),I 1] (qp (b - a : Nat) 1 (List.replicate (b - a) (32,0))):=(z5y (b - a) 1 (by omega)).to (by rw [Nat.mul_one]; rfl)
 have cl:=fun u=>zxg (T0:=T0) w h u l a (List.replicate (b - a) (32,0)) hlen hb (by omega) h3 hall (by simp; omega)
 have co:=z8t (T0:=T0) w h l (by omega)
 clear hall
 refine za Tryz.func164 rfl (by decide) Tryz.ntmps164 rfl ?_
 repeat' (first
 |(apply zj rfl rfl rfl rfl (c:=co)
   case ha=>repeat' (first | exact wn | apply wm oo_)
   rintro _ _ ⟨u,rfl,rfl⟩; refine zu (List.Mem.head _) fun hu1 hu2 => ?_)
  |(apply zd rfl rfl rfl rfl (c:=cl _)
    case ha=>repeat' (first | exact wn | apply wm oo_)
    case hM=>repeat' (first | exact Pick.here | apply Pick.next)
    rintro _ _ rfl)
 |refine zbz ?_ | (refine zb ?_ ?_ <;> intro hb <;> try exact no_) | (refine sx_ ?_ <;> intro bb) | (refine su_ ?_ <;> intro u hu1 hu2) | fail)
 all_goals first | (exfalso; simp at hb; omega) | skip
 exact ⟨_,_,rs_,sl_,u,rfl,rfl⟩
theorem z55 (w h : Int) (l : List zp) (a b : Int) (hl : l.length ≤ 3000) : AP Tryz.prog T0 164 [qp w h l,I a,I b] (yi (ji w h l a b)):=by
 by_cases hc : okG w h l = true ∧ 0 ≤ a ∧ a ≤ b ∧ b ≤ l.length
 ·have hc':=hc
  obtain ⟨hok,x1,x2,x3⟩:=hc
  obtain ⟨w,h,rfl,rfl,_⟩:=jd hok
  obtain ⟨a,rfl⟩:=Int.eq_ofNat_of_zero_le x1
  obtain ⟨b,rfl⟩:=Int.eq_ofNat_of_zero_le (show 0 ≤ b by omega)
  have:=(z1p (T0:=T0) w h l a b hl hok (by omega) (by omega)).frz1 ze8
  simpa only [ji,if_pos hc',yi,Int.toNat_natCast,show ((b : Int) - (a : Int)).toNat = b - a by omega] using this
 ·refine za Tryz.func164 rfl (by decide) Tryz.ntmps164 rfl ?_
  repeat' (first
  |(apply zj rfl rfl rfl rfl (c:=co)
    case ha=>repeat' (first | exact wn | apply wm oo_)
    rintro _ _ ⟨u,rfl,rfl⟩; refine zu (List.Mem.head _) fun hu1 hu2 => ?_)
   |(apply zd rfl rfl rfl rfl (c:=cl _)
     case ha=>repeat' (first | exact wn | apply wm oo_)
     case hM=>repeat' (first | exact Pick.here | apply Pick.next)
     rintro _ _ rfl)
  |refine sa_ ?_ | refine zw ?_ (c:=by first | exact z2_ _ _ _ hl | fail) | refine x5 ?_ | refine zk ?_ (c:=by intro hk hk2; first | exact z2_ _ _ _ hl | fail) | refine sw_ ?_ | (refine zb ?_ ?_ <;> intro hb <;> try exact no_) | (refine sx_ ?_ <;> intro bb) | (refine su_ ?_ <;> intro u hu1 hu2) | fail)
  all_goals first | (exfalso; obtain ⟨⟨⟨q1,q2⟩,q3⟩,q4⟩:=hb; exact hc ⟨by simpa using q1,by omega,by omega,by omega⟩) | skip
  refine ⟨_,[],rs_,List.nil_sublist _, ?_,rfl⟩
  simp only [ji,if_neg hc,yi]; exact u_
end
section
open Go Go.RowKit
variable {T0 : Gh} [TabS T0]
attribute [local irreducible] z_ zg AW AL AO QY qd zx rsA Opd xi vA gvA zt z0 slA jc ipA rpA EqK LnK IxK LdK FaK FdK
set_option maxRecDepth 100000
noncomputable def vz (w h : Int) (l : List zp) : List zp:=if okG w h l = true then l.drop w.toNat ++ List.replicate w.toNat (32,0) else l
theorem zxp (w h : Nat) (l : List zp) (hl : l.length ≤ 3000) (hc : okG w h l = true) : AF Tryz.prog T0 126 [qp w h l] [] (fun A M' => ∃ u,A = z0 [I w,I h,vA u] ∧ M' = [zx qg 87 u (l.drop w ++ List.replicate w (32,0))]):=by
 obtain ⟨w',h',e1,e2,h1,h2,h3,h4,hlen,hall⟩:=jd hc
 obtain rfl : w = w':=by omega
 obtain rfl : h = h':=by omega
 have hb:=ks h2 h4
 have hwl : w ≤ l.length:=by rw [hlen]; exact Nat.le_mul_of_pos_right w h3
 have c1 : AP Tryz.prog T0 104 [qp w h l] (B true):=hc ▸ z2_ w h l hl
 have co:=zrc (T0:=T0) w h (by omega)
 clear hall
 refine za Tryz.func126 rfl (by decide) Tryz.ntmps126 rfl ?_
 repeat' (first
 |(apply zj rfl rfl rfl rfl (c:=co)
   case ha=>repeat' (first | exact wn | apply wm oo_)
   rintro _ _ ⟨u,rfl,rfl⟩; refine zu (List.Mem.head _) fun hu1 hu2 => ?_)
 |refine zl5 ?_ | (refine zb ?_ ?_ <;> intro hb <;> try exact no_) | (refine sx_ ?_ <;> intro bb) | (refine su_ ?_ <;> intro u hu1 hu2) | fail)
 all_goals first | exact e2_ | skip
 have e : ovr (List.replicate (w * h) ((32,0) : zp)) 0 (((l.drop w).take (l.length - w)).take (List.replicate (w * h) ((32,0) : zp)).length) = l.drop w ++ List.replicate w (32,0):=by
  rw [List.length_replicate,List.take_of_length_le (i:=w * h) (by rw [List.length_take]; omega),List.take_of_length_le (by rw [List.length_drop]; omega)]
  simp only [ovr,List.take_zero,List.nil_append,List.length_drop,List.drop_replicate,Nat.zero_add]
  rw [show w * h - (l.length - w) = w by omega]
 exact ⟨_,[zx qg 87 u (ovr (List.replicate (w * h) ((32,0) : zp)) 0 (((l.drop w).take (l.length - w)).take (List.replicate (w * h) ((32,0) : zp)).length))],rs_,sl_,u,rfl,by rw [e]⟩
theorem z1o (w h : Int) (l : List zp) (hl : l.length ≤ 3000) : AP Tryz.prog T0 126 [qp w h l] (qp w h (vz w h l)):=by
 by_cases hc : okG w h l = true
 ·obtain ⟨w,h,rfl,rfl,_⟩:=jd hc
  have:=(zxp (T0:=T0) w h l hl hc).frz1 ze8
  simpa only [vz,if_pos hc,Int.toNat_natCast] using this
 ·have hc' : okG w h l = false:=by simpa using hc
  have c1 : AP Tryz.prog T0 104 [qp w h l] (B false):=hc' ▸ z2_ w h l hl
  refine za Tryz.func126 rfl (by decide) Tryz.ntmps126 rfl ?_
  repeat' (first
  |refine zl5 ?_ | (refine zb ?_ ?_ <;> intro hb <;> try exact no_) | (refine sx_ ?_ <;> intro bb) | (refine su_ ?_ <;> intro u hu1 hu2) | fail)
  all_goals first | exact e2_ | skip
  refine ⟨_,[],rs_,List.nil_sublist _, ?_,rfl⟩
  simp only [vz,hc',qp]; exact Sub.refl _
theorem x7 (w h : Int) : AP Tryz.prog T0 127 [I w,I h] (B (qu w h)):=by
 refine za Tryz.func127 rfl (by decide) Tryz.ntmps127 rfl ?_
 repeat' (first
 |refine zl5 ?_ | (refine zb ?_ ?_ <;> intro hb <;> try exact no_) | (refine sx_ ?_ <;> intro bb) | (refine su_ ?_ <;> intro u hu1 hu2) | fail)
 exact ⟨_,[],rs_,List.nil_sublist _,Sub.refl _,rfl⟩
theorem z29 (w h : Nat) (l : List zp) (i : Nat) (hl : l.length = w * h) (hb : w * h ≤ 1920) (h1 : 2 ≤ w) (h2 : w ≤ 80) (h3 : 1 ≤ h) (hi : i < l.length) : AP Tryz.prog T0 178 [qp w h l,I i] (B (ko w l i)):=by
 have hat:=zng hi
 have hnx : i % w ≠ w - 1 → i + 1 < l.length:=fun k=>by
  rcases Nat.lt_or_ge (i + 1) l.length with h | h
  ·exact h
  ·exact absurd (zfl (by omega) h3 (by omega)) k
 have hpv : i % w ≠ 0 → 1 ≤ i:=fun k=>by
  rcases Nat.eq_zero_or_pos i with h | h
  ·subst h; simp at k
  ·exact h
 have hm : (0 : Int) ≤ ((i % w : Nat) : Int):=Int.natCast_nonneg _
 refine za Tryz.func178 rfl (by decide) Tryz.ntmps178 rfl ?_
 repeat' (first
 |refine zl5 ?_ | (refine zb ?_ ?_ <;> intro hb <;> try exact no_) | (refine sx_ ?_ <;> intro bb) | (refine su_ ?_ <;> intro u hu1 hu2) | fail)
 all_goals refine ⟨_,[],rs_,List.nil_sublist _,Sub.eq (congrArg B ?_),rfl⟩
 ·rw [ko,if_pos hb]; congr 1; rw [decide_eq_decide]; omega
 ·rename_i e1; rw [ko,if_neg e1,if_pos hb]; congr 1; rw [decide_eq_decide]; omega
 ·rename_i e1; rw [ko,if_neg e1,if_neg hb]
theorem v6 (w h : Int) (l : List zp) : AP Tryz.prog T0 144 [qp w h l] (B (okG w h l)):=by
 by_cases hs : qu w h = true
 ·obtain ⟨w,h,rfl,rfl,h1,h2,h3,h4⟩:=kx hs
  have hb:=ks h2 h4
  have hnn : (0 : Int) ≤ ((w * h : Nat) : Int):=Int.natCast_nonneg _
  by_cases hlen : l.length = w * h
  ·have hl : l.length ≤ 3000:=by omega
   have hok : okG w h l = true ↔ ∀ i,i < l.length → xo (cAt l i) = true ∧ ko w l i = false:=by
    rw [okG,decide_eq_true_eq,OkG]
    constructor
    ·rintro ⟨_,_,k⟩; simpa using k
    ·intro k; exact ⟨by omega,by rw [hlen]; simp,by simpa using k⟩
   have cl : ∀ i,i < l.length → AP Tryz.prog T0 178 [qp w h l,I i] (B (ko w l i)):=fun i hi=>z29 w h l i hlen hb h1 h2 h3 hi
   refine za Tryz.func144 rfl (by decide) Tryz.ntmps144 rfl ?_
   repeat' (first
   |refine z_b ?_ | (refine zb ?_ ?_ <;> intro hb <;> try exact no_) | (refine sx_ ?_ <;> intro bb) | (refine su_ ?_ <;> intro u hu1 hu2) | fail)
   all_goals first | (exfalso; simp [hs] at hb; omega) | skip
   refine zee (fun i : Nat=>[(1,vA (.pointer (some ⟨bb,0,none⟩))),(3,I i)]) (fun _=>[qd bb 27 [I w,I h,slA qg l]]) (fun i=>i ≤ l.length ∧ ∀ j,j < i → xo (cAt l j) = true ∧ ko w l j = false) (fun i=>l.length - i) 0 ⟨Nat.zero_le _,fun _ k=>absurd k (Nat.not_lt_zero _)⟩ wk_ sl_ ?_
   rintro i ⟨i1,i2⟩
   by_cases hlt : i < l.length
   ·repeat' (first
    |refine z_b ?_ | (refine zb ?_ ?_ <;> intro hb <;> try exact no_) | (refine sx_ ?_ <;> intro bb) | (refine su_ ?_ <;> intro u hu1 hu2) | fail)
    ·refine ⟨_,[],rs_,List.nil_sublist _,Sub.eq (congrArg B ?_),rfl⟩
     rw [eq_comm,← Bool.not_eq_true,hok]
     intro k
     have t:=k i hlt
     rcases hb with hb | hb
     ·exact absurd (show xo (cAt l i) = true from t.1) (by rw [show xo (cAt l i) = false from hb]; decide)
     ·rw [t.2] at hb; cases hb
    ·refine ⟨i + 1,⟨by omega,fun j hj => ?_⟩,by omega,wk_,sl_⟩
     by_cases e : j = i
     ·subst e; exact hb
     ·exact i2 j (by omega)
   ·repeat' (first
    |refine z_b ?_ | (refine zb ?_ ?_ <;> intro hb <;> try exact no_) | (refine sx_ ?_ <;> intro bb) | (refine su_ ?_ <;> intro u hu1 hu2) | fail)
    refine ⟨_,[],rs_,List.nil_sublist _,Sub.eq (congrArg B ?_),rfl⟩
    exact (hok.2 fun j hj=>i2 j (by omega)).symm
  ·have hok : okG w h l = false:=by
    rw [okG,decide_eq_false_iff_not]; rintro ⟨_,k,_⟩; exact hlen (by rw [← Int.natCast_mul] at k; omega)
   rw [hok]
   refine za Tryz.func144 rfl (by decide) Tryz.ntmps144 rfl ?_
   repeat' (first
   |refine z_b ?_ | (refine zb ?_ ?_ <;> intro hb <;> try exact no_) | (refine sx_ ?_ <;> intro bb) | (refine su_ ?_ <;> intro u hu1 hu2) | fail)
   all_goals first | exact ⟨_,[],rs_,List.nil_sublist _,Sub.refl _,rfl⟩ | (exfalso; omega) | (exfalso; simp [hs] at hb; omega)
 ·have hs' : ¬ (2 ≤ w ∧ w ≤ 80 ∧ 1 ≤ h ∧ h ≤ 24):=by simpa [qu,and_assoc] using hs
  have hok : okG w h l = false:=by
   rw [okG,decide_eq_false_iff_not]; rintro ⟨k,_,_⟩; exact hs' k
  rw [hok]
  have hs2 : qu w h = false:=by simpa using hs
  refine za Tryz.func144 rfl (by decide) Tryz.ntmps144 rfl ?_
  repeat' (first
  |refine sa_ ?_ | refine zw ?_ (c:=by first | exact x7 _ _ | exact wh (_,_) | exact cl _ (by omega) | fail) | refine xr ?_ (hy:=by first | exact zau rfl oo_ oo_ | fail) | refine x5 ?_ | refine zk ?_ (c:=by intro hk hk2; first | exact x7 _ _ | exact wh (_,_) | exact cl _ (by omega) | fail) | refine qc ?_ (hy:=by intro hk hk2; first | exact zau rfl oo_ oo_ | fail) | refine sw_ ?_ | (refine zb ?_ ?_ <;> intro hb <;> try exact no_) | (refine sx_ ?_ <;> intro bb) | (refine su_ ?_ <;> intro u hu1 hu2) | fail)
  all_goals first | exact ⟨_,[],rs_,List.nil_sublist _,Sub.refl _,rfl⟩ | (exfalso; simp [hs2] at hb; done)
theorem yd (w h : Int) (l : List zp) (hl : l.length ≤ 3000) : AP Tryz.prog T0 144 [qp w h l] (B (okG w h l)):=v6 w h l
theorem qa6 (w h : Int) (l : List zp) (x y : Int) (hl : l.length ≤ 3000) : AP Tryz.prog T0 208 [qp w h l,I x,I y] (B (decide (okG w h l = true ∧ 0 ≤ x ∧ x < w ∧ 0 ≤ y ∧ y < h))):=by
 refine za Tryz.func208 rfl (by decide) Tryz.ntmps208 rfl ?_
 repeat' (first
 |refine qb6 ?_ | (refine zb ?_ ?_ <;> intro hb <;> try exact no_) | (refine sx_ ?_ <;> intro bb) | (refine su_ ?_ <;> intro u hu1 hu2) | fail)
 refine ⟨_,[],rs_,List.nil_sublist _,Sub.eq (congrArg B ?_),rfl⟩
 rw [Bool.eq_iff_iff]; simp [and_assoc]
theorem za9 (w h : Int) (l : List zp) (hl : l.length ≤ 100000) : AF Tryz.prog T0 201 [qp w h l] [] (fun A M' => ∃ u,A = z0 [I w,I h,vA u] ∧ M' = [zx qg 87 u l]):=by
 refine za Tryz.func201 rfl (by decide) Tryz.ntmps201 rfl ?_
 repeat' (first
 |refine qb6 ?_ | (refine zb ?_ ?_ <;> intro hb <;> try exact no_) | (refine sx_ ?_ <;> intro bb) | (refine su_ ?_ <;> intro u hu1 hu2) | fail)
 exact ⟨_,[zx qg 87 u ([] ++ l)],rs_,sl_,u,rfl,rfl⟩
end
section
open Go Go.RowKit
variable {T0 : Gh} [TabS T0]
attribute [local irreducible] z_ zg AW AL AO QY qd zx rsA Opd xi vA gvA zt z0 slA jc ipA rpA EqK LnK IxK LdK FaK FdK
set_option maxRecDepth 100000
theorem zou (w h : Nat) (h1 : 2 ≤ w) (h2 : w ≤ 80) (h3 : 1 ≤ h) (h4 : h ≤ 24) : AF Tryz.prog T0 193 [I w,I h] [] (fun A M' => ∃ u,A = zt [z0 [I w,I h,vA u],I 0] ∧ M' = [zx qg 87 u (List.replicate (w * h) (32,0))]):=by
 have hb:=ks h2 h4
 have hnn : (0 : Int) ≤ ((w * h : Nat) : Int):=Int.natCast_nonneg _
 have hs : qu w h = true:=by simp [qu]; omega
 refine za Tryz.func193 rfl (by decide) Tryz.ntmps193 rfl ?_
 repeat' (first
 |refine z_c ?_ | (refine zb ?_ ?_ <;> intro hb <;> try exact no_) | (refine sx_ ?_ <;> intro bb) | (refine su_ ?_ <;> intro u hu1 hu2) | fail)
 all_goals first | (exfalso; simp [hs] at hb; done) | skip
 rename_i b4
 refine zrx qg 87 ?_
 refine zjj (fun (k : Nat) (u : Value)=>[(0,I w),(1,I h),(4,vA (.pointer (some ⟨b4,0,none⟩))),(6,vA (.pointer (some ⟨bb,0,none⟩))),(7,I k)]) (fun k u=>[zx qg 87 u (List.replicate k (32,0)),qd bb 27 [I w,I h,vA u],qd b4 27 [I 0,I 0,vA (.slice none 0 0)]]) (fun k _=>k ≤ w * h) (fun k _=>w * h - k) 0 _ (Nat.zero_le _) wk_ (List.Sublist.refl _) ?_
 rintro k u i1
 refine zhx (List.Mem.head _) fun hu1 hu2 => ?_
 by_cases hlt : k < w * h
 ·repeat' (first
  |refine z_c ?_ | (refine zb ?_ ?_ <;> intro hb <;> try exact no_) | (refine sx_ ?_ <;> intro bb) | (refine su_ ?_ <;> intro u hu1 hu2) | fail)
  exact ⟨k + 1,_,by omega,by omega,wk_,by rw [List.replicate_succ']; exact List.Sublist.refl _⟩
 ·repeat' (first
  |refine z_c ?_ | (refine zb ?_ ?_ <;> intro hb <;> try exact no_) | (refine sx_ ?_ <;> intro bb) | (refine su_ ?_ <;> intro u hu1 hu2) | fail)
  exact ⟨_,[zx qg 87 u (List.replicate k (32,0))],rs_,sl_,u,rfl,by rw [show k = w * h by omega]⟩
theorem zs9 (w h : Int) : AP Tryz.prog T0 193 [I w,I h] (yi (zb_ w h)):=by
 by_cases hs : qu w h = true
 ·obtain ⟨w,h,rfl,rfl,h1,h2,h3,h4⟩:=kx hs
  have:=(zou (T0:=T0) w h h1 h2 h3 h4).frz1 ze8
  simpa only [zb_,hs,if_true,yi,Int.toNat_natCast] using this
 ·have hs2 : qu w h = false:=by simpa using hs
  refine za Tryz.func193 rfl (by decide) Tryz.ntmps193 rfl ?_
  repeat' (first
  |refine z_c ?_ | (refine zb ?_ ?_ <;> intro hb <;> try exact no_) | (refine sx_ ?_ <;> intro bb) | (refine su_ ?_ <;> intro u hu1 hu2) | fail)
  all_goals first | (exfalso; simp [hs2] at hb; done) | skip
  ·refine ⟨_,[],rs_,List.nil_sublist _, ?_,rfl⟩
   simp only [zb_,hs,yi]; exact u_
end
section
open Go Go.RowKit
variable {T0 : Gh} [TabS T0]
set_option maxRecDepth 100000
attribute [local irreducible] z_ zg AW AL AO QY qd zx rsA Opd xi vA gvA zt z0 slA jc ipA rpA EqK LnK IxK LdK FaK FdK
end
section
open Go Go.RowKit
variable {T0 : Gh} [TabS T0]
set_option maxRecDepth 100000
def okB (w h : Int) (l : List zp) : Bool:=qu w h && decide ((l.length : Int) = w * h) && (List.range l.length).all fun i=>xo (cAt l i) && !ko w.toNat l i
theorem zqc (w h : Int) (l : List zp) : okG w h l = okB w h l:=by
 rw [Bool.eq_iff_iff,okG,decide_eq_true_eq,OkG,okB]
 simp [qu,and_assoc]
theorem AF.pre {P : Program} {T0 : Gh} {f : FuncId} {As As' : List AV} {M : List Own} {K : AV → List Own → Prop} {KP : List PanicEntry → List Own → Prop} (h : AF P T0 f As M K KP) (s : SubL As' As) : AF P T0 f As' M K KP:=⟨h.able,fun w0 G F w vs hs hr=>h.calls w0 G F w vs hs (s.rep hr)⟩
attribute [local irreducible] z_ zg AW AL AO QY qd zx rsA Opd xi vA gvA zt z0 slA jc ipA rpA EqK LnK IxK LdK FaK FdK
end
section
open Go Go.RowKit
variable {T0 : Gh} [TabS T0]
set_option maxRecDepth 100000
def zd2 (w : Nat) (l : List zp) (k : Nat) : List zp:=(List.range l.length).map fun i=>if i < k ∧ ko w l i = true then (32,0) else cAt l i
theorem we (w : Nat) (l : List zp) (k : Nat) : (zd2 w l k).length = l.length:=by simp [zd2]
theorem zcx {w : Nat} {l : List zp} {k i : Nat} (h : i < l.length) : cAt (zd2 w l k) i = if i < k ∧ ko w l i = true then (32,0) else cAt l i:=by
 unfold zd2; rw [cAt,List.getElem?_map]; simp [h]
theorem zsp (w : Nat) (l : List zp) : zd2 w l 0 = l:=by
 apply uu (we w l 0)
 intro i hi; rw [we] at hi; rw [zcx hi]; simp
theorem zvx (w : Nat) (l : List zp) : zd2 w l l.length = ze5 w l:=by
 apply uu (by rw [we,zah])
 intro i hi; rw [we] at hi; rw [zcx hi,uo hi]; simp [hi]
theorem zsq (w : Nat) (l : List zp) (k : Nat) (hk : k < l.length) : (if ko w l k = true then (zd2 w l k).set k (32,0) else zd2 w l k) = zd2 w l (k + 1):=by
 apply uu
 ·split <;> simp [we]
 ·intro i hi
  have hi2 : i < l.length:=by
   have : (if ko w l k = true then (zd2 w l k).set k (32,0) else zd2 w l k).length = l.length:=by split <;> simp [we]
   omega
  rw [zcx hi2]
  by_cases hl : ko w l k = true
  ·rw [if_pos hl,zb5 _ _ _ _ (by rw [we]; exact hk),zcx hi2]
   by_cases he : i = k
   ·subst he; simp [hl]
   ·rw [if_neg he]
    have : (i < k) = (i < k + 1):=propext (by omega)
    simp only [this]
  ·rw [if_neg hl,zcx hi2]
   by_cases he : i = k
   ·subst he; simp [hl]
   ·have : (i < k) = (i < k + 1):=propext (by omega)
    simp only [this]
attribute [local irreducible] z_ zg AW AL AO QY qd zx rsA Opd xi vA gvA zt z0 slA jc ipA rpA EqK LnK IxK LdK FaK FdK
theorem zxf (w h : Nat) (l : List zp) (hl : l.length = w * h) (hb : w * h ≤ 1920) (h1 : 2 ≤ w) (h2 : w ≤ 80) (h3 : 1 ≤ h) : AF Tryz.prog T0 202 [qp w h l] [] (fun A M' => ∃ u,A = z0 [I w,I h,vA u] ∧ M' = [zx qg 87 u (ze5 w l)]):=by
 have cl : ∀ i,i < l.length → AP Tryz.prog T0 178 [qp w h l,I i] (B (ko w l i)):=fun i hi=>z29 w h l i hl hb h1 h2 h3 hi
 have co:=za9 (T0:=T0) w h l (by omega)
 refine za Tryz.func202 rfl (by decide) Tryz.ntmps202 rfl ?_
 repeat' (first
 |(apply zj rfl rfl rfl rfl (c:=co)
   case ha=>repeat' (first | exact wn | apply wm oo_)
   rintro _ _ ⟨u,rfl,rfl⟩; refine zu (List.Mem.head _) fun hu1 hu2 => ?_)
 |refine qay ?_ | (refine zb ?_ ?_ <;> intro hb <;> try exact no_) | (refine sx_ ?_ <;> intro bb) | (refine su_ ?_ <;> intro u hu1 hu2) | fail)
 rename_i b1 b2
 refine zee (fun k : Nat=>[(1,vA (.pointer (some ⟨b1,0,none⟩))),(2,vA (.pointer (some ⟨b2,0,none⟩))),(3,vA (.pointer (some ⟨bb,0,none⟩))),(4,I k)])
  (fun k=>[qd bb 27 [I w,I h,vA u],zx qg 87 u (zd2 w l k),qd b2 27 [I 0,I 0,vA (.slice none 0 0)],qd b1 27 [I w,I h,slA qg l]]) (fun k=>k ≤ l.length) (fun k=>l.length - k) 0 (Nat.zero_le _) wk_ (by rw [zsp]; exact List.Sublist.refl _) ?_
 rintro k i1
 have m5:=we w l k
 by_cases hlt : k < l.length
 ·have hn:=zsq w l k hlt
  repeat' (first
  |(apply zj rfl rfl rfl rfl (c:=co)
    case ha=>repeat' (first | exact wn | apply wm oo_)
    rintro _ _ ⟨u,rfl,rfl⟩; refine zu (List.Mem.head _) fun hu1 hu2 => ?_)
  |refine qay ?_ | (refine zb ?_ ?_ <;> intro hb <;> try exact no_) | (refine sx_ ?_ <;> intro bb) | (refine su_ ?_ <;> intro u hu1 hu2) | fail)
  ·rw [if_pos hb] at hn
   exact ⟨k + 1,by omega,by omega,wk_,by rw [← hn]; exact List.Sublist.refl _⟩
  ·rw [if_neg (by rw [hb]; decide)] at hn
   exact ⟨k + 1,by omega,by omega,wk_,by rw [← hn]; exact List.Sublist.refl _⟩
 ·repeat' (first
  |(apply zj rfl rfl rfl rfl (c:=co)
    case ha=>repeat' (first | exact wn | apply wm oo_)
    rintro _ _ ⟨u,rfl,rfl⟩; refine zu (List.Mem.head _) fun hu1 hu2 => ?_)
  |refine qay ?_ | (refine zb ?_ ?_ <;> intro hb <;> try exact no_) | (refine sx_ ?_ <;> intro bb) | (refine su_ ?_ <;> intro u hu1 hu2) | fail)
  exact ⟨_,[zx qg 87 u (zd2 w l k)],rs_,sl_,u,rfl,by rw [show k = l.length by omega,zvx]⟩
end
section
open Go Go.RowKit
set_option maxRecDepth 100000
def zh2 (w a : Nat) (cs : List zp) : Prop := ∀ j,j < cs.length → ((cAt cs j).2 = 1 → j + 1 < cs.length ∧ cAt cs (j + 1) = ((cAt cs j).1,2) ∧ (a + j) % w ≠ w - 1) ∧ ((cAt cs j).2 = 2 → 1 ≤ j ∧ cAt cs (j - 1) = ((cAt cs j).1,1) ∧ (a + j) % w ≠ 0)
theorem z5b {l : List zp} {a : Nat} {cs : List zp} (hne : cs ≠ []) (hac : a + cs.length ≤ l.length) (hA : (cAt l a).2 = 2 → 1 ≤ a) (hB : (cAt l (a + cs.length - 1)).2 = 1 → a + cs.length < l.length) (i : Nat) :
  cAt (zak l a cs) i = if i < a then (if i + 1 = a ∧ (cAt l a).2 = 2 then (32,0) else cAt l i) else if i < a + cs.length then cAt cs (i - a) else (if i = a + cs.length ∧ (cAt l (a + cs.length - 1)).2 = 1 then (32,0) else cAt l i):=by
 have hp:=List.length_pos_iff.2 hne
 unfold zak
 rw [if_neg hne]
 simp only
 have e1 : ∀ j,cAt (if (cAt l a).2 = 2 then l.set (a - 1) (32,0) else l) j = if j + 1 = a ∧ (cAt l a).2 = 2 then (32,0) else cAt l j:=fun j=>by
  by_cases h : (cAt l a).2 = 2
  ·have:=hA h
   rw [if_pos h,zb5 _ _ _ _ (by omega)]
   by_cases hj : j = a - 1
   ·rw [if_pos hj,if_pos ⟨by omega,h⟩]
   ·rw [if_neg hj,if_neg (by omega)]
  ·rw [if_neg h,if_neg (fun x=>h x.2)]
 have len1 : (if (cAt l a).2 = 2 then l.set (a - 1) (32,0) else l).length = l.length:=by split <;> simp
 generalize (if (cAt l a).2 = 2 then l.set (a - 1) (32,0) else l) = l1 at *
 have hv : cAt l1 (a + cs.length - 1) = cAt l (a + cs.length - 1):=by rw [e1,if_neg (by omega)]
 rw [hv]
 have e2 : ∀ j,cAt (if (cAt l (a + cs.length - 1)).2 = 1 then l1.set (a + cs.length) (32,0) else l1) j = if j = a + cs.length ∧ (cAt l (a + cs.length - 1)).2 = 1 then (32,0) else cAt l1 j:=fun j=>by
  by_cases h : (cAt l (a + cs.length - 1)).2 = 1
  ·have:=hB h
   rw [if_pos h,zb5 _ _ _ _ (by omega)]
   by_cases hj : j = a + cs.length
   ·rw [if_pos hj,if_pos ⟨hj,h⟩]
   ·rw [if_neg hj,if_neg (fun x=>hj x.1)]
  ·rw [if_neg h,if_neg (fun x=>h x.2)]
 have len2 : (if (cAt l (a + cs.length - 1)).2 = 1 then l1.set (a + cs.length) (32,0) else l1).length = l.length:=by split <;> simp [len1]
 rw [zb6 (by rw [len2]; exact hac),e2,e1]
 by_cases q1 : i < a
 ·rw [if_pos q1,if_pos q1,if_neg (by omega)]
 ·rw [if_neg q1,if_neg q1]
  by_cases q2 : i < a + cs.length
  ·rw [if_pos q2,if_pos q2]
  ·rw [if_neg q2,if_neg q2]
   by_cases q3 : i = a + cs.length ∧ (cAt l (a + cs.length - 1)).2 = 1
   ·rw [if_pos q3,if_pos q3]
   ·rw [if_neg q3,if_neg q3,if_neg (by omega)]
theorem zj9 (w h : Nat) (l : List zp) (a : Nat) (cs : List zp) (hw : 2 ≤ w) (h1 : 1 ≤ h) (hl : l.length = w * h) (hok : ∀ i,i < l.length → xo (cAt l i) = true ∧ ko w l i = false) (hac : a + cs.length ≤ l.length) (hcs : zh2 w a cs) : ze5 w (ovr l a cs) = zak l a cs:=by
 have hm : ∀ i,cAt (ovr l a cs) i = if i < a then cAt l i else if i < a + cs.length then cAt cs (i - a) else cAt l i:=fun i=>zb6 hac
 apply uu (by rw [zah,qz hac,z0t hac])
 intro i hi
 rw [zah,qz hac] at hi
 rw [uo (by rw [qz hac]; exact hi)]
 obtain ⟨_,o1⟩:=hok i hi
 obtain ⟨o2,o3⟩:=ql.1 o1
 by_cases hne : cs = []
 ·subst hne
  have e : ovr l a [] = l:=by simp [ovr]
  rw [e,o1]; simp [zak]
 have hp:=List.length_pos_iff.2 hne
 have oa:=ql.1 (hok a (by omega)).2
 have ob:=ql.1 (hok (a + cs.length - 1) (by omega)).2
 have c0:=hcs 0 hp
 have cl:=hcs (cs.length - 1) (by omega)
 rw [z5b hne hac (fun k=>zvk (hok a (by omega)).2 k) (fun k=>by have:=zj4 (by omega) h1 hl (by omega) (hok (a + cs.length - 1) (by omega)).2 k; omega)]
 by_cases q1 : i < a
 ·rw [if_pos q1]
  by_cases q2 : i + 1 = a ∧ (cAt l a).2 = 2
  ·rw [if_pos q2]
   obtain ⟨q3,q4⟩:=q2
   have q5:=(oa.2 q4).2
   rw [show a - 1 = i by omega] at q5
   have q6 : ko w (ovr l a cs) i = true:=by
    rw [← Bool.not_eq_false]
    intro hf
    have:=((ql.1 hf).1 (by rw [hm,if_pos q1,q5])).2
    rw [hm (i + 1),if_neg (by omega),if_pos (by omega),show i + 1 - a = 0 by omega] at this
    have:=(c0.2 (by rw [this])).1
    omega
   rw [q6]; rfl
  ·rw [if_neg q2]
   have q6 : ko w (ovr l a cs) i = false:=ql.2 ⟨fun k => ?_,fun k => ?_⟩
   ·rw [q6,hm,if_pos q1]; rfl
   ·rw [hm i,if_pos q1] at k ⊢
    obtain ⟨k1,k2⟩:=o2 k
    refine ⟨k1, ?_⟩
    by_cases q7 : i + 1 < a
    ·rw [hm,if_pos q7]; exact k2
    ·exfalso; apply q2
     refine ⟨by omega, ?_⟩
     rw [show a = i + 1 by omega,k2]
   ·rw [hm i,if_pos q1] at k ⊢
    obtain ⟨k1,k2⟩:=o3 k
    exact ⟨k1,by rw [hm,if_pos (by omega)]; exact k2⟩
 ·rw [if_neg q1]
  by_cases q2 : i < a + cs.length
  ·rw [if_pos q2]
   obtain ⟨d1,d2⟩:=hcs (i - a) (by omega)
   rw [show a + (i - a) = i by omega] at d1 d2
   have q6 : ko w (ovr l a cs) i = false:=ql.2 ⟨fun k => ?_,fun k => ?_⟩
   ·rw [q6,hm,if_neg q1,if_pos q2]; rfl
   ·rw [hm i,if_neg q1,if_pos q2] at k ⊢
    obtain ⟨k1,k2,k3⟩:=d1 k
    exact ⟨k3,by rw [hm,if_neg (by omega),if_pos (by omega),show i + 1 - a = i - a + 1 by omega]; exact k2⟩
   ·rw [hm i,if_neg q1,if_pos q2] at k ⊢
    obtain ⟨k1,k2,k3⟩:=d2 k
    exact ⟨k3,by rw [hm,if_neg (by omega),if_pos (by omega),show i - 1 - a = i - a - 1 by omega]; exact k2⟩
  ·rw [if_neg q2]
   by_cases q3 : i = a + cs.length ∧ (cAt l (a + cs.length - 1)).2 = 1
   ·rw [if_pos q3]
    obtain ⟨q4,q5⟩:=q3
    have q7:=(ob.1 q5).2
    rw [show a + cs.length - 1 + 1 = i by omega] at q7
    have q6 : ko w (ovr l a cs) i = true:=by
     rw [← Bool.not_eq_false]
     intro hf
     have:=((ql.1 hf).2 (by rw [hm,if_neg q1,if_neg q2,q7])).2
     rw [hm (i - 1),if_neg (by omega),if_pos (by omega),show i - 1 - a = cs.length - 1 by omega] at this
     have:=(cl.1 (by rw [this])).1
     omega
    rw [q6]; rfl
   ·rw [if_neg q3]
    have q6 : ko w (ovr l a cs) i = false:=ql.2 ⟨fun k => ?_,fun k => ?_⟩
    ·rw [q6,hm,if_neg q1,if_neg q2]; rfl
    ·rw [hm i,if_neg q1,if_neg q2] at k ⊢
     obtain ⟨k1,k2⟩:=o2 k
     exact ⟨k1,by rw [hm,if_neg (by omega),if_neg (by omega)]; exact k2⟩
    ·rw [hm i,if_neg q1,if_neg q2] at k ⊢
     obtain ⟨k1,k2⟩:=o3 k
     refine ⟨k1, ?_⟩
     by_cases q7 : i = a + cs.length
     ·exfalso; apply q3
      refine ⟨q7, ?_⟩
      rw [show a + cs.length - 1 = i - 1 by omega,k2]
     ·rw [hm,if_neg (by omega),if_neg (by omega)]; exact k2
end
section
open Go Go.RowKit
variable {T0 : Gh} [TabS T0]
set_option maxRecDepth 100000
theorem z4u (l : List zp) (a n : Nat) (h : a + n < l.length) : (ovr l a (List.replicate n (32,0))).set (a + n) (32,0) = ovr l a (List.replicate (n + 1) (32,0)):=by
 have h1 : a + (List.replicate n ((32,0) : zp)).length ≤ l.length:=by simp; omega
 have h2 : a + (List.replicate (n + 1) ((32,0) : zp)).length ≤ l.length:=by simp; omega
 apply uu
 ·rw [List.length_set,qz h1,qz h2]
 ·intro i hi
  rw [List.length_set,qz h1] at hi
  rw [zb5 _ _ _ _ (by rw [qz h1]; exact h),zb6 h1,zb6 h2,List.length_replicate,List.length_replicate]
  by_cases q : i = a + n
  ·subst q; rw [if_pos rfl,if_neg (by omega),if_pos (by omega),yz (by omega)]
  ·rw [if_neg q]
   by_cases q1 : i < a
   ·rw [if_pos q1,if_pos q1]
   ·rw [if_neg q1,if_neg q1]
    by_cases q2 : i < a + n
    ·rw [if_pos q2,if_pos (by omega),yz (by omega),yz (by omega)]
    ·rw [if_neg q2,if_neg (by omega)]
theorem zcf (w a n : Nat) : zh2 w a (List.replicate n (32,0)):=fun j hj=>by
 rw [yz (by simpa using hj)]
 exact ⟨fun k=>by simp at k,fun k=>by simp at k⟩
attribute [local irreducible] z_ zg AW AL AO QY qd zx rsA Opd xi vA gvA zt z0 slA jc ipA rpA EqK LnK IxK LdK FaK FdK
theorem zkj (w h : Nat) (l : List zp) (a b : Nat) (hl : l.length ≤ 3000) (hc : okG w h l = true) (hab : a ≤ b) (hbl : b ≤ l.length) :
  AP Tryz.prog T0 195 [qp w h l,I a,I b] (zt [qp w h (zak l a (List.replicate (b - a) (32,0))),I 0]):=by
 obtain ⟨w',h',e1,e2,h1,h2,h3,h4,hlen,hall⟩:=jd hc
 obtain rfl : w = w':=by omega
 obtain rfl : h = h':=by omega
 have hb:=ks h2 h4
 have hnn : (0 : Int) ≤ ((w * h : Nat) : Int):=Int.natCast_nonneg _
 have c1 : AP Tryz.prog T0 144 [qp w h l] (B true):=hc ▸ yd w h l hl
 have co:=za9 (T0:=T0) w h l (by omega)
 have cm : ∀ m : List zp,m.length = l.length → AP Tryz.prog T0 202 [qp w h m] (qp w h (ze5 w m)):=fun m hm=>(zxf w h m (by omega) hb h1 h2 h3).frz1 ze8
 have hml:=zj9 w h l a (List.replicate (b - a) (32,0)) h1 h3 hlen hall (by simp; omega) (zcf w a (b - a))
 clear hall
 refine za Tryz.func195 rfl (by decide) Tryz.ntmps195 rfl ?_
 repeat' (first
 |(apply zj rfl rfl rfl rfl (c:=co)
   case ha=>repeat' (first | exact wn | apply wm oo_)
   rintro _ _ ⟨u,rfl,rfl⟩; refine zu (List.Mem.head _) fun hu1 hu2 => ?_)
 |refine qaz ?_ | (refine zb ?_ ?_ <;> intro hb <;> try exact no_) | (refine sx_ ?_ <;> intro bb) | (refine su_ ?_ <;> intro u hu1 hu2) | fail)
 all_goals first | (exfalso; simp at hb; omega) | skip
 rename_i b3 b6
 refine zee (fun k : Nat=>[(2,I b),(3,vA (.pointer (some ⟨b3,0,none⟩))),(6,vA (.pointer (some ⟨b6,0,none⟩))),(8,vA (.pointer (some ⟨bb,0,none⟩))),(9,I (a + k : Nat))])
  (fun k=>[qd bb 27 [I w,I h,vA u],zx qg 87 u (ovr l a (List.replicate k (32,0))),qd b6 27 [I 0,I 0,vA (.slice none 0 0)],qd b3 27 [I w,I h,slA qg l]]) (fun k=>k ≤ b - a) (fun k=>b - a - k) 0 (Nat.zero_le _) wk_ (by rw [show ovr l a (List.replicate 0 ((32,0) : zp)) = l by simp [ovr]]; exact List.Sublist.refl _) ?_
 rintro k i1
 have hlo : (ovr l a (List.replicate k ((32,0) : zp))).length = l.length:=qz (by simp; omega)
 by_cases hlt : k < b - a
 ·have hn:=z4u l a k (by omega)
  repeat' (first
  |(apply zj rfl rfl rfl rfl (c:=co)
    case ha=>repeat' (first | exact wn | apply wm oo_)
    rintro _ _ ⟨u,rfl,rfl⟩; refine zu (List.Mem.head _) fun hu1 hu2 => ?_)
  |refine qaz ?_ | (refine zb ?_ ?_ <;> intro hb <;> try exact no_) | (refine sx_ ?_ <;> intro bb) | (refine su_ ?_ <;> intro u hu1 hu2) | fail)
  exact ⟨k + 1,by omega,by omega,wk_,by rw [← hn]; exact List.Sublist.refl _⟩
 ·refine z9s (u:=u) (l:=ovr l a (List.replicate k (32,0))) zf qb8 z8p ?_
  repeat' (first
  |(apply zj rfl rfl rfl rfl (c:=co)
    case ha=>repeat' (first | exact wn | apply wm oo_)
    rintro _ _ ⟨u,rfl,rfl⟩; refine zu (List.Mem.head _) fun hu1 hu2 => ?_)
  |refine qaz ?_ | (refine zb ?_ ?_ <;> intro hb <;> try exact no_) | (refine sx_ ?_ <;> intro bb) | (refine su_ ?_ <;> intro u hu1 hu2) | fail)
  refine ⟨_,[],rs_,List.nil_sublist _, ?_,rfl⟩
  rw [show k = b - a by omega,hml]
  exact Sub.refl _
end
section
open Go Go.RowKit
variable {T0 : Gh} [TabS T0]
set_option maxRecDepth 100000
def zt8 (w : Nat) (l : List zp) (k : Nat) : List zp:=(List.range l.length).map fun i=>if i < k then (if i + w < l.length then cAt l (i + w) else (32,0)) else cAt l i
theorem yl (w : Nat) (l : List zp) (k : Nat) : (zt8 w l k).length = l.length:=by simp [zt8]
theorem zjw {w : Nat} {l : List zp} {k i : Nat} (h : i < l.length) : cAt (zt8 w l k) i = if i < k then (if i + w < l.length then cAt l (i + w) else (32,0)) else cAt l i:=by
 unfold zt8; rw [cAt,List.getElem?_map]; simp [h]
theorem zu3 (w : Nat) (l : List zp) : zt8 w l 0 = l:=by
 apply uu (yl w l 0)
 intro i hi; rw [yl] at hi; rw [zjw hi]; simp
theorem zu4 (w : Nat) (l : List zp) (k : Nat) (hk : k < l.length) (c : zp) (hc : c = if k + w < l.length then cAt l (k + w) else (32,0)) : (zt8 w l k).set k c = zt8 w l (k + 1):=by
 apply uu
 ·simp [yl]
 ·intro i hi
  have hi2 : i < l.length:=by simpa [yl] using hi
  rw [zb5 _ _ _ _ (by rw [yl]; exact hk),zjw hi2,zjw hi2]
  by_cases he : i = k
  ·subst he; rw [if_pos rfl,if_pos (by omega),hc]
  ·rw [if_neg he]
   by_cases q : i < k
   ·rw [if_pos q,if_pos (show i < k + 1 by omega)]
   ·rw [if_neg q,if_neg (show ¬ i < k + 1 by omega)]
theorem zzy (w : Nat) (l : List zp) (hw : w ≤ l.length) : zt8 w l l.length = l.drop w ++ List.replicate w (32,0):=by
 apply uu
 ·simp [yl]; omega
 ·intro i hi
  rw [yl] at hi
  rw [zjw hi,if_pos hi,zx_,List.length_drop]
  by_cases q : i + w < l.length
  ·rw [if_pos q,if_pos (by omega),zku,Nat.add_comm]
  ·rw [if_neg q,if_neg (by omega),yz (by omega)]
attribute [local irreducible] z_ zg AW AL AO QY qd zx rsA Opd xi vA gvA zt z0 slA jc ipA rpA EqK LnK IxK LdK FaK FdK
theorem zeu (w h : Int) (l : List zp) (a b : Int) (hl : l.length ≤ 3000) : AP Tryz.prog T0 195 [qp w h l,I a,I b] (yi (ji w h l a b)):=by
 by_cases hc : okG w h l = true ∧ 0 ≤ a ∧ a ≤ b ∧ b ≤ l.length
 ·have hc':=hc
  obtain ⟨hok,x1,x2,x3⟩:=hc
  obtain ⟨w,h,rfl,rfl,_⟩:=jd hok
  obtain ⟨a,rfl⟩:=Int.eq_ofNat_of_zero_le x1
  obtain ⟨b,rfl⟩:=Int.eq_ofNat_of_zero_le (show 0 ≤ b by omega)
  have:=zkj (T0:=T0) w h l a b hl hok (by omega) (by omega)
  simpa only [ji,if_pos hc',yi,Int.toNat_natCast,show ((b : Int) - (a : Int)).toNat = b - a by omega] using this
 ·by_cases hok : okG w h l = true
  ·obtain ⟨w,h,rfl,rfl,h1,h2,h3,h4,hlen,_⟩:=jd hok
   have hb:=ks h2 h4
   have hnn : (0 : Int) ≤ ((w * h : Nat) : Int):=Int.natCast_nonneg _
   have c1 : AP Tryz.prog T0 144 [qp w h l] (B true):=hok ▸ yd w h l hl
   have hc2 : ¬ (0 ≤ a ∧ a ≤ b ∧ b ≤ l.length):=fun x=>hc ⟨hok,x⟩
   refine za Tryz.func195 rfl (by decide) Tryz.ntmps195 rfl ?_
   repeat' (first
   |refine zl5 ?_ | (refine zb ?_ ?_ <;> intro hb <;> try exact no_) | (refine sx_ ?_ <;> intro bb) | (refine su_ ?_ <;> intro u hu1 hu2) | fail)
   all_goals first | (exfalso; simp at hb; omega) | skip
   refine ⟨_,[],rs_,List.nil_sublist _, ?_,rfl⟩
   simp only [ji,if_neg hc,yi]; exact u_
  ·have hc' : okG w h l = false:=by simpa using hok
   have c1 : AP Tryz.prog T0 144 [qp w h l] (B (okG w h l)):=yd w h l hl
   refine za Tryz.func195 rfl (by decide) Tryz.ntmps195 rfl ?_
   repeat' (first
   |refine sa_ ?_ | refine zw ?_ (c:=by first | exact c1 | fail) | refine xr ?_ (hy:=by first | exact zau rfl oo_ oo_ | fail) | refine x5 ?_ | refine zk ?_ (c:=by intro hk hk2; first | exact c1 | fail) | refine qc ?_ (hy:=by intro hk hk2; first | exact zau rfl oo_ oo_ | fail) | refine sw_ ?_ | (refine zb ?_ ?_ <;> intro hb <;> try exact no_) | (refine sx_ ?_ <;> intro bb) | (refine su_ ?_ <;> intro u hu1 hu2) | fail)
   all_goals first | (exfalso; simp [hc'] at hb; done) | skip
   refine ⟨_,[],rs_,List.nil_sublist _, ?_,rfl⟩
   simp only [ji,if_neg hc,yi]; exact u_
theorem zki (w h : Int) (l : List zp) (hl : l.length ≤ 3000) : AP Tryz.prog T0 203 [qp w h l] (qp w h (vz w h l)):=by
 by_cases hok : okG w h l = true
 ·obtain ⟨w,h,rfl,rfl,h1,h2,h3,h4,hlen,_⟩:=jd hok
  have hwl : w ≤ l.length:=by rw [hlen]; exact Nat.le_mul_of_pos_right w h3
  have c1 : AP Tryz.prog T0 144 [qp w h l] (B true):=hok ▸ yd w h l hl
  have co:=za9 (T0:=T0) w h l (by omega)
  have e : vz w h l = zt8 w l l.length:=by rw [vz,if_pos hok,zzy w l hwl,Int.toNat_natCast]
  rw [e]
  refine AF.frz1 (l:=zt8 w l l.length) (F:=fun u=>z0 [I w,I h,vA u]) (e:=87) (T:=qg) ?_ ze8
  refine za Tryz.func203 rfl (by decide) Tryz.ntmps203 rfl ?_
  repeat' (first
  |(apply zj rfl rfl rfl rfl (c:=co)
    case ha=>repeat' (first | exact wn | apply wm oo_)
    rintro _ _ ⟨u,rfl,rfl⟩; refine zu (List.Mem.head _) fun hu1 hu2 => ?_)
  |refine zl5 ?_ | (refine zb ?_ ?_ <;> intro hb <;> try exact no_) | (refine sx_ ?_ <;> intro bb) | (refine su_ ?_ <;> intro u hu1 hu2) | fail)
  all_goals first | exact e2_ | skip
  rename_i b1 b2
  refine zee (fun k : Nat=>[(1,vA (.pointer (some ⟨b1,0,none⟩))),(2,vA (.pointer (some ⟨b2,0,none⟩))),(3,vA (.pointer (some ⟨bb,0,none⟩))),(4,I k)])
   (fun k=>[qd bb 27 [I w,I h,vA u],zx qg 87 u (zt8 w l k),qd b2 27 [I 0,I 0,vA (.slice none 0 0)],qd b1 27 [I w,I h,slA qg l]]) (fun k=>k ≤ l.length) (fun k=>l.length - k) 0 (Nat.zero_le _) wk_ (by rw [zu3]; exact List.Sublist.refl _) ?_
  rintro k i1
  have m5:=yl w l k
  by_cases hlt : k < l.length
  ·have hn:=zu4 w l k hlt _ rfl
   repeat' (first
   |(apply zj rfl rfl rfl rfl (c:=co)
     case ha=>repeat' (first | exact wn | apply wm oo_)
     rintro _ _ ⟨u,rfl,rfl⟩; refine zu (List.Mem.head _) fun hu1 hu2 => ?_)
   |refine zl5 ?_ | (refine zb ?_ ?_ <;> intro hb <;> try exact no_) | (refine sx_ ?_ <;> intro bb) | (refine su_ ?_ <;> intro u hu1 hu2) | fail)
   ·rw [if_pos (by omega)] at hn
    exact ⟨k + 1,by omega,by omega,wk_,by rw [← hn]; exact List.Sublist.refl _⟩
   ·rw [if_neg (by omega)] at hn
    exact ⟨k + 1,by omega,by omega,wk_,by rw [← hn]; exact List.Sublist.refl _⟩
  ·repeat' (first
   |(apply zj rfl rfl rfl rfl (c:=co)
     case ha=>repeat' (first | exact wn | apply wm oo_)
     rintro _ _ ⟨u,rfl,rfl⟩; refine zu (List.Mem.head _) fun hu1 hu2 => ?_)
   |refine zl5 ?_ | (refine zb ?_ ?_ <;> intro hb <;> try exact no_) | (refine sx_ ?_ <;> intro bb) | (refine su_ ?_ <;> intro u hu1 hu2) | fail)
   exact ⟨_,[zx qg 87 u (zt8 w l k)],rs_,sl_,u,rfl,by rw [show k = l.length by omega]⟩
 ·have hc' : okG w h l = false:=by simpa using hok
  have c1 : AP Tryz.prog T0 144 [qp w h l] (B false):=hc' ▸ yd w h l hl
  refine za Tryz.func203 rfl (by decide) Tryz.ntmps203 rfl ?_
  repeat' (first
  |refine zl5 ?_ | (refine zb ?_ ?_ <;> intro hb <;> try exact no_) | (refine sx_ ?_ <;> intro bb) | (refine su_ ?_ <;> intro u hu1 hu2) | fail)
  all_goals first | exact e2_ | skip
  refine ⟨_,[],rs_,List.nil_sublist _, ?_,rfl⟩
  simp only [vz,hc',qp]; exact Sub.refl _
end
section
open Go Go.RowKit
variable {T0 : Gh} [TabS T0]
set_option maxRecDepth 100000
theorem kh {r : Int} (hs : xq r = true) : zh r = if isW r then [(r,1),(r,2)] else [(r,0)]:=by
 simp [zh,zx2 hs,hs]
theorem zvi {w y x : Nat} (h : x < w) : (y * w + x) % w = x:=by
 rw [Nat.add_comm,Nat.add_mul_mod_self_right,Nat.mod_eq_of_lt h]
theorem zb4 (w y x : Nat) (r : Int) (hs : xq r = true) (hx : x + (zh r).length ≤ w) : zh2 w (y * w + x) (zh r):=by
 rw [kh hs] at hx ⊢
 cases hw : isW r with
 |true =>
  rw [hw] at hx
  simp only [if_true,List.length_cons,List.length_nil] at hx ⊢
  have h0:=zvi (w:=w) (y:=y) (x:=x) (by omega)
  have h1:=zvi (w:=w) (y:=y) (x:=x + 1) (by omega)
  intro j hj
  simp only [List.length_cons,List.length_nil] at hj
  have : j = 0 ∨ j = 1:=by omega
  rcases this with rfl | rfl
  ·refine ⟨fun _=>⟨by simp,rfl,by rw [Nat.add_zero,h0]; omega⟩,fun h=>by simp [cAt] at h⟩
  ·refine ⟨fun h=>by simp [cAt] at h,fun _=>⟨by omega,rfl,by rw [Nat.add_assoc,h1]; omega⟩⟩
 |false =>
  simp only [Bool.false_eq_true,if_false]
  intro j hj
  simp only [List.length_cons,List.length_nil] at hj
  obtain rfl : j = 0:=by omega
  exact ⟨fun h=>by simp [cAt] at h,fun h=>by simp [cAt] at h⟩
theorem z0b (l : List zp) (a : Nat) (cs : List zp) (k : Nat) (hk : k < cs.length) (h : a + cs.length ≤ l.length) : (ovr l a (cs.take k)).set (a + k) (cAt cs k) = ovr l a (cs.take (k + 1)):=by
 have h1 : a + (cs.take k).length ≤ l.length:=by simp; omega
 have h2 : a + (cs.take (k + 1)).length ≤ l.length:=by simp; omega
 have e1 : (cs.take k).length = k:=by simp; omega
 have e2 : (cs.take (k + 1)).length = k + 1:=by simp; omega
 apply uu
 ·rw [List.length_set,qz h1,qz h2]
 ·intro i hi
  rw [List.length_set,qz h1] at hi
  rw [zb5 _ _ _ _ (by rw [qz h1]; omega),zb6 h1,zb6 h2,e1,e2]
  by_cases q : i = a + k
  ·subst q; rw [if_pos rfl,if_neg (by omega),if_pos (by omega),zfx (by omega),show a + k - a = k by omega]
  ·rw [if_neg q]
   by_cases q1 : i < a
   ·rw [if_pos q1,if_pos q1]
   ·rw [if_neg q1,if_neg q1]
    by_cases q2 : i < a + k
    ·rw [if_pos q2,if_pos (by omega),zfx (by omega),zfx (by omega)]
    ·rw [if_neg q2,if_neg (by omega)]
theorem z4v (l : List zp) (a : Nat) (cs : List zp) : ovr l a (cs.take 0) = l:=by simp [ovr]
attribute [local irreducible] z_ zg AW AL AO QY qd zx rsA Opd xi vA gvA zt z0 slA jc ipA rpA EqK LnK IxK LdK FaK FdK
theorem zot (w h : Nat) (l : List zp) (x y : Nat) (r : Int) (hl : l.length ≤ 3000) (hc : okG w h l = true ∧ (0 : Int) ≤ x ∧ (x : Int) < w ∧ (0 : Int) ≤ y ∧ (y : Int) < h) (hs : xq r = true) (hx : x + (zh r).length ≤ w) :
  AP Tryz.prog T0 200 [qp w h l,I x,I y,R r] (zt [qp w h (zak l (y * w + x) (zh r)),I 0]):=by
 obtain ⟨w',h',e1,e2,h1,h2,h3,h4,hlen,hall⟩:=jd hc.1
 obtain rfl : w = w':=by omega
 obtain rfl : h = h':=by omega
 have hb:=ks h2 h4
 have hn:=vg r
 have hp:=zfw (show x + (zh r).length - 1 < w by omega) (show y < h by omega)
 have m3 : (0 : Int) ≤ ((y * w : Nat) : Int):=Int.natCast_nonneg _
 have c1 : AP Tryz.prog T0 208 [qp w h l,I x,I y] (B true):=(qa6 w h l x y hl).to (congrArg B (by rw [decide_eq_true hc]))
 have co:=za9 (T0:=T0) w h l (by omega)
 have cm : ∀ m : List zp,m.length = l.length → AP Tryz.prog T0 202 [qp w h m] (qp w h (ze5 w m)):=fun m hm=>(zxf w h m (by omega) hb h1 h2 h3).frz1 ze8
 have hml:=zj9 w h l (y * w + x) (zh r) h1 h3 hlen hall (by omega) (zb4 w y x r hs hx)
 have hwx : isW r = true → x + 2 ≤ w:=fun hw=>by rw [kh hs,if_pos hw] at hx; exact hx
 clear hall
 refine za Tryz.func200 rfl (by decide) Tryz.ntmps200 rfl ?_
 repeat' (first
 |(apply zj rfl rfl rfl rfl (c:=co)
   case ha=>repeat' (first | exact wn | apply wm oo_)
   rintro _ _ ⟨u,rfl,rfl⟩; refine zu (List.Mem.head _) fun hu1 hu2 => ?_)
 |refine z_d ?_ | (refine zb ?_ ?_ <;> intro hb <;> try exact no_) | (refine sx_ ?_ <;> intro bb) | (refine su_ ?_ <;> intro u hu1 hu2) | fail)
 all_goals first | (exfalso; rcases hb with (q | q) | q <;> first | exact q | (rw [hs] at q; cases q) | (have:=hwx q.1; omega)) | skip
 rename_i b4 b8
 refine zee (fun k : Nat=>[(1,I x),(2,I y),(4,vA (.pointer (some ⟨b4,0,none⟩))),(8,vA (.pointer (some ⟨b8,0,none⟩))),(10,slA qg (zh r)),(11,vA (.pointer (some ⟨bb,0,none⟩))),(12,I k)])
  (fun k=>[qd bb 27 [I w,I h,vA u],zx qg 87 u (ovr l (y * w + x) ((zh r).take k)),qd b8 27 [I 0,I 0,vA (.slice none 0 0)],qd b4 27 [I w,I h,slA qg l]]) (fun k=>k ≤ (zh r).length) (fun k=>(zh r).length - k) 0 (Nat.zero_le _) wk_ (by rw [z4v]; exact List.Sublist.refl _) ?_
 rintro k i1
 have hlo : (ovr l (y * w + x) ((zh r).take k)).length = l.length:=qz (by simp; omega)
 by_cases hlt : k < (zh r).length
 ·have hn:=z0b l (y * w + x) (zh r) k hlt (by omega)
  have hat:=zng hlt
  generalize cAt (zh r) k = c at *
  obtain ⟨c1',c2'⟩:=c
  repeat' (first
  |(apply zj rfl rfl rfl rfl (c:=co)
    case ha=>repeat' (first | exact wn | apply wm oo_)
    rintro _ _ ⟨u,rfl,rfl⟩; refine zu (List.Mem.head _) fun hu1 hu2 => ?_)
  |refine z_d ?_ | (refine zb ?_ ?_ <;> intro hb <;> try exact no_) | (refine sx_ ?_ <;> intro bb) | (refine su_ ?_ <;> intro u hu1 hu2) | fail)
  exact ⟨k + 1,by omega,by omega,wk_,by rw [← hn]; exact List.Sublist.refl _⟩
 ·refine z9s (u:=u) (l:=ovr l (y * w + x) ((zh r).take k)) zf qb8 z8p ?_
  repeat' (first
  |(apply zj rfl rfl rfl rfl (c:=co)
    case ha=>repeat' (first | exact wn | apply wm oo_)
    rintro _ _ ⟨u,rfl,rfl⟩; refine zu (List.Mem.head _) fun hu1 hu2 => ?_)
  |refine z_d ?_ | (refine zb ?_ ?_ <;> intro hb <;> try exact no_) | (refine sx_ ?_ <;> intro bb) | (refine su_ ?_ <;> intro u hu1 hu2) | fail)
  refine ⟨_,[],rs_,List.nil_sublist _, ?_,rfl⟩
  rw [List.take_of_length_le (by omega),hml]
  exact Sub.refl _
theorem zi2 (w h : Int) (l : List zp) (x y r : Int) (hl : l.length ≤ 3000) : AP Tryz.prog T0 200 [qp w h l,I x,I y,R r] (yi (zlo w h l x y r)):=by
 by_cases hc : (okG w h l = true ∧ 0 ≤ x ∧ x < w ∧ 0 ≤ y ∧ y < h) ∧ xq r = true ∧ x + (zh r).length ≤ w
 ·have hc':=hc
  obtain ⟨⟨hok,x1,x2,y1,y2⟩,hs,hx⟩:=hc
  obtain ⟨w,h,rfl,rfl,_⟩:=jd hok
  obtain ⟨x,rfl⟩:=Int.eq_ofNat_of_zero_le x1
  obtain ⟨y,rfl⟩:=Int.eq_ofNat_of_zero_le y1
  have:=zot (T0:=T0) w h l x y r hl hc'.1 hs (by omega)
  simpa only [zlo,if_pos hc',yi,Int.toNat_natCast] using this
 ·have hw : isW r = false → xq r = true → (zh r).length = 1:=fun a b=>by rw [kh b,a]; rfl
  have hw2 : isW r = true → xq r = true → (zh r).length = 2:=fun a b=>by rw [kh b,a]; rfl
  by_cases hin : okG w h l = true ∧ 0 ≤ x ∧ x < w ∧ 0 ≤ y ∧ y < h
  ·have c1 : AP Tryz.prog T0 208 [qp w h l,I x,I y] (B true):=(qa6 w h l x y hl).to (congrArg B (by rw [decide_eq_true hin]))
   obtain ⟨w',h',rfl,rfl,h1,h2,h3,h4,hlen,hall⟩:=jd hin.1
   clear hall
   refine za Tryz.func200 rfl (by decide) Tryz.ntmps200 rfl ?_
   have hsn : xq r = true → isW r = true ∧ x = (w' : Int) - 1:=fun b=>by
    cases hwr : isW r with
    |true=>exact ⟨rfl,by have:=hw2 hwr b; have : ¬ (x + (zh r).length ≤ w'):=fun q=>hc ⟨hin,b,q⟩; omega⟩
    |false=>exact absurd ⟨hin,b,by rw [hw hwr b]; omega⟩ hc
   repeat' (first
   |(apply zj rfl rfl rfl rfl (c:=co)
     case ha=>repeat' (first | exact wn | apply wm oo_)
     rintro _ _ ⟨u,rfl,rfl⟩; refine zu (List.Mem.head _) fun hu1 hu2 => ?_)
   |refine z_d ?_ | (refine zb ?_ ?_ <;> intro hb <;> try exact no_) | (refine sx_ ?_ <;> intro bb) | (refine su_ ?_ <;> intro u hu1 hu2) | fail)
   all_goals first | (exfalso; obtain ⟨⟨_,q2⟩,q3⟩:=hb; obtain ⟨q4,q5⟩:=hsn q2; rcases q3 with q3 | q3 <;> first | (rw [q4] at q3; cases q3) | omega) | skip
   refine ⟨_,[],rs_,List.nil_sublist _, ?_,rfl⟩
   simp only [zlo,if_neg hc,yi]; exact u_
  ·have c1 : AP Tryz.prog T0 208 [qp w h l,I x,I y] (B false):=(qa6 w h l x y hl).to (congrArg B (by rw [decide_eq_false hin]))
   refine za Tryz.func200 rfl (by decide) Tryz.ntmps200 rfl ?_
   repeat' (first
   |(apply zj rfl rfl rfl rfl (c:=co)
     case ha=>repeat' (first | exact wn | apply wm oo_)
     rintro _ _ ⟨u,rfl,rfl⟩; refine zu (List.Mem.head _) fun hu1 hu2 => ?_)
   |refine sa_ ?_ | refine zw ?_ (c:=by first | exact c1 | exact xj _ | exact jn _ | exact kf _ | exact cm _ (by omega) | fail) | refine xr ?_ (hy:=by first | (apply zkw rfl; exact qe; exact qe) | fail) | refine x5 ?_ | refine zk ?_ (c:=by intro hk hk2; first | exact c1 | exact xj _ | exact jn _ | exact kf _ | exact cm _ (by omega) | fail) | refine qc ?_ (hy:=by intro hk hk2; first | (apply zkw rfl; exact qe; exact qe) | fail) | refine sw_ ?_ | (refine zb ?_ ?_ <;> intro hb <;> try exact no_) | (refine sx_ ?_ <;> intro bb) | (refine su_ ?_ <;> intro u hu1 hu2) | fail)
   all_goals first | (exfalso; obtain ⟨⟨q1,q2⟩,q3⟩:=hb; exact q1) | skip
   refine ⟨_,[],rs_,List.nil_sublist _, ?_,rfl⟩
   simp only [zlo,if_neg hc,yi]; exact u_
end
section
open Go Go.RowKit
set_option maxRecDepth 100000
theorem z0n {i w : Nat} (hw : 1 ≤ w) (h : i % w ≠ w - 1) : (i + 1) % w = i % w + 1:=by
 have h1:=Nat.mod_lt i (show 0 < w by omega)
 have e : i + 1 = (i % w + 1) + w * (i / w):=by have:=Nat.mod_add_div i w; omega
 calc (i + 1) % w = ((i % w + 1) + w * (i / w)) % w:=congrArg (· % w) e
  _ = i % w + 1:=by rw [Nat.add_mul_mod_self_left,Nat.mod_eq_of_lt (by omega)]
theorem z0o {i w : Nat} (hw : 1 ≤ w) (h : i % w ≠ 0) : (i - 1) % w = i % w - 1:=by
 have h1:=Nat.mod_lt i (show 0 < w by omega)
 have e : i - 1 = (i % w - 1) + w * (i / w):=by have:=Nat.mod_add_div i w; omega
 calc (i - 1) % w = ((i % w - 1) + w * (i / w)) % w:=congrArg (· % w) e
  _ = i % w - 1:=by rw [Nat.add_mul_mod_self_left,Nat.mod_eq_of_lt (by omega)]
theorem zvv {w h i : Nat} {l : List zp} (hw : 1 ≤ w) (h1 : 1 ≤ h) (hl : l.length = w * h) (hi : i < l.length) (hm : i % w ≠ w - 1) : i + 1 < l.length:=by
 rcases Nat.lt_or_ge (i + 1) l.length with k | k
 ·exact k
 ·exact absurd (zfl hw h1 (by omega)) hm
theorem zvg {w i : Nat} (hm : i % w ≠ 0) : 1 ≤ i:=by
 rcases Nat.eq_zero_or_pos i with h | h
 ·subst h; simp at hm
 ·exact h
theorem z4_ (w h : Nat) (l : List zp) (hw : 2 ≤ w) (h1 : 1 ≤ h) (hl : l.length = w * h) (hc : ∀ i,i < l.length → xo (cAt l i) = true) : ∀ i,i < (ze5 w l).length → xo (cAt (ze5 w l) i) = true ∧ ko w (ze5 w l) i = false:=by
 intro i hi
 rw [zah] at hi
 refine ⟨?_,ql.2 ⟨fun k => ?_,fun k => ?_⟩⟩
 ·rw [uo hi]; split
  ·exact kb
  ·exact hc i hi
 ·rw [uo hi] at k ⊢
  by_cases q : ko w l i = true
  ·rw [if_pos q] at k; simp at k
  ·rw [if_neg q] at k ⊢
   obtain ⟨k1,k2⟩:=(ql.1 (by simpa using q)).1 k
   refine ⟨k1, ?_⟩
   have hn:=zvv (by omega) h1 hl hi k1
   rw [uo hn,if_neg,k2]
   rw [Bool.not_eq_true]
   refine ql.2 ⟨fun e => ?_,fun _=>⟨?_, ?_⟩⟩
   ·rw [k2] at e; simp at e
   ·rw [z0n (by omega) k1]; omega
   ·rw [Nat.add_sub_cancel,k2]; exact Prod.ext rfl k
 ·rw [uo hi] at k ⊢
  by_cases q : ko w l i = true
  ·rw [if_pos q] at k; simp at k
  ·rw [if_neg q] at k ⊢
   obtain ⟨k1,k2⟩:=(ql.1 (by simpa using q)).2 k
   refine ⟨k1, ?_⟩
   have hp:=zvg k1
   have hml:=Nat.mod_lt i (show 0 < w by omega)
   rw [uo (by omega),if_neg,k2]
   rw [Bool.not_eq_true]
   refine ql.2 ⟨fun _=>⟨?_, ?_⟩,fun e => ?_⟩
   ·rw [z0o (by omega) k1]; omega
   ·rw [show i - 1 + 1 = i by omega,k2]; exact Prod.ext rfl k
   ·rw [k2] at e; simp at e
theorem zvn {w h : Nat} {l : List zp} (h1 : 2 ≤ w) (h2 : w ≤ 80) (h3 : 1 ≤ h) (h4 : h ≤ 24) (hl : l.length = w * h) (hc : ∀ i,i < l.length → xo (cAt l i) = true ∧ ko w l i = false) : okG w h l = true :=
 decide_eq_true ⟨by omega,by rw [hl]; simp,by simpa using hc⟩
theorem zv2 (w h : Nat) (l : List zp) (a : Nat) (cs : List zp) (hok : okG w h l = true) (hac : a + cs.length ≤ l.length) (hcs : zh2 w a cs) (hcl : ∀ j,j < cs.length → xo (cAt cs j) = true) : okG w h (zak l a cs) = true:=by
 obtain ⟨w',h',e1,e2,h1,h2,h3,h4,hlen,hall⟩:=jd hok
 obtain rfl : w = w':=by omega
 obtain rfl : h = h':=by omega
 have hl2:=qz hac
 rw [← zj9 w h l a cs h1 h3 hlen hall hac hcs]
 refine zvn h1 h2 h3 h4 (by rw [zah,hl2,hlen]) (z4_ w h _ h1 h3 (by rw [hl2,hlen]) fun i hi => ?_)
 rw [hl2] at hi
 rw [zb6 hac]
 split
 ·exact (hall i hi).1
 ·split
  ·exact hcl _ (by omega)
  ·exact (hall i hi).1
theorem zem {r : Int} (hs : xq r = true) : ∀ j,j < (zh r).length → xo (cAt (zh r) j) = true:=by
 rw [kh hs]
 cases hw : isW r with
 |true =>
  simp only [if_true,List.length_cons,List.length_nil]
  intro j hj
  have : j = 0 ∨ j = 1:=by omega
  rcases this with rfl | rfl <;> simp [cAt,xo,hs,hw]
 |false =>
  simp only [Bool.false_eq_true,if_false,List.length_cons,List.length_nil]
  intro j hj
  obtain rfl : j = 0:=by omega
  simp [cAt,xo,hs,hw]
theorem z47 {w h : Nat} (h1 : 2 ≤ w) (h2 : w ≤ 80) (h3 : 1 ≤ h) (h4 : h ≤ 24) : okG w h (List.replicate (w * h) (32,0)) = true:=by
 refine zvn h1 h2 h3 h4 (by simp) fun i hi => ?_
 rw [List.length_replicate] at hi
 refine ⟨by rw [yz hi]; exact kb,ql.2 ⟨fun e=>by rw [yz hi] at e; simp at e,fun e=>by rw [yz hi] at e; simp at e⟩⟩
theorem zu1 {w h : Nat} {l : List zp} (hok : okG w h l = true) : okG w h (l.drop w ++ List.replicate w (32,0)) = true:=by
 obtain ⟨w',h',e1,e2,h1,h2,h3,h4,hlen,hall⟩:=jd hok
 obtain rfl : w = w':=by omega
 obtain rfl : h = h':=by omega
 have hwl : w ≤ l.length:=by rw [hlen]; exact Nat.le_mul_of_pos_right w h3
 have hat : ∀ i,i < l.length → cAt (l.drop w ++ List.replicate w (32,0)) i = if i + w < l.length then cAt l (i + w) else (32,0):=fun i hi=>by
  rw [zx_,List.length_drop]
  by_cases q : i + w < l.length
  ·rw [if_pos q,if_pos (by omega),zku,Nat.add_comm]
  ·rw [if_neg q,if_neg (by omega),yz (by omega)]
 refine zvn h1 h2 h3 h4 (by simp; omega) fun i hi => ?_
 have hi2 : i < l.length:=by simp at hi; omega
 by_cases q : i + w < l.length
 ·obtain ⟨a,b⟩:=hall _ q
  obtain ⟨b1,b2⟩:=ql.1 b
  rw [Nat.add_mod_right] at b1 b2
  have hv:=hat i hi2
  rw [if_pos q] at hv
  refine ⟨by rw [hv]; exact a,ql.2 ⟨fun e => ?_,fun e => ?_⟩⟩
  ·rw [hv] at e ⊢
   obtain ⟨c1,c2⟩:=b1 e
   have hn:=zvv (i:=i + w) (by omega) h3 hlen q (by rw [Nat.add_mod_right]; exact c1)
   exact ⟨c1,by rw [hat _ (by omega),if_pos (by omega),← c2]; congr 1; omega⟩
  ·rw [hv] at e ⊢
   obtain ⟨c1,c2⟩:=b2 e
   have hp:=zvg c1
   exact ⟨c1,by rw [hat _ (by omega),if_pos (by omega),← c2]; congr 1; omega⟩
 ·have hv:=hat i hi2
  rw [if_neg q] at hv
  refine ⟨by rw [hv]; exact kb,ql.2 ⟨fun e=>by rw [hv] at e; simp at e,fun e=>by rw [hv] at e; simp at e⟩⟩
end
section
open Go Go.RowKit
variable {T0 : Gh} [TabS T0]
set_option maxRecDepth 100000
attribute [local irreducible] z_ zg AW AL AO QY qd zx rsA Opd xi vA gvA zt z0 slA jc ipA rpA EqK LnK IxK LdK FaK FdK
end
section
open Go Go.RowKit
variable {T0 : Gh} [TabS T0]
set_option maxRecDepth 100000
theorem z4s (w h : Int) (l : List zp) (x y r : Int) (he : (zlo w h l x y r).2 = 0) : okG (zlo w h l x y r).1.1 (zlo w h l x y r).1.2.1 (zlo w h l x y r).1.2.2 = true:=by
 unfold zlo at he ⊢
 split at he
 ·rename_i hc
  rw [if_pos hc]
  obtain ⟨⟨hok,x1,x2,y1,y2⟩,hs,hx⟩:=hc
  obtain ⟨w',h',rfl,rfl,_,_,_,_,hlen,_⟩:=jd hok
  have h1:=vg r
  have:=zfw (w:=w') (h:=h') (x:=x.toNat + (zh r).length - 1) (y:=y.toNat) (by omega) (by omega)
  show okG w' h' (zak l (y.toNat * w' + x.toNat) (zh r)) = true
  exact zv2 w' h' l _ _ hok (by omega) (zb4 w' _ _ r hs (by omega)) (zem hs)
 ·simp at he
theorem zd5 (n : Nat) : ∀ j,j < (List.replicate n ((32,0) : zp)).length → xo (cAt (List.replicate n (32,0)) j) = true:=fun j hj=>by
 rw [yz (by simpa using hj)]; exact kb
theorem zyc (w h : Int) (l : List zp) (a b : Int) (he : (ji w h l a b).2 = 0) : okG (ji w h l a b).1.1 (ji w h l a b).1.2.1 (ji w h l a b).1.2.2 = true:=by
 unfold ji at he ⊢
 split at he
 ·rename_i hc
  rw [if_pos hc]
  obtain ⟨hok,x1,x2,x3⟩:=hc
  obtain ⟨w',h',rfl,rfl,_,_,_,_,hlen,_⟩:=jd hok
  show okG w' h' (zak l a.toNat (List.replicate (b - a).toNat (32,0))) = true
  exact zv2 w' h' l _ _ hok (by rw [List.length_replicate]; omega) (zcf _ _ _) (zd5 _)
 ·simp at he
theorem zjv (w h : Int) (l : List zp) (hok : okG w h l = true) : (vz w h l).length = l.length ∧ okG w h (vz w h l) = true:=by
 obtain ⟨w',h',rfl,rfl,_,_,h3,_,hlen,_⟩:=jd hok
 have hwl : w' ≤ l.length:=by rw [hlen]; exact Nat.le_mul_of_pos_right w' h3
 rw [vz,if_pos hok,Int.toNat_natCast]
 exact ⟨by simp; omega,zu1 hok⟩
attribute [local irreducible] z_ zg AW AL AO QY qd zx rsA Opd xi vA gvA zt z0 slA jc ipA rpA EqK LnK IxK LdK FaK FdK
end
end Go.Proofs.YtgfmjmfphmjdkaaGreatDoor
