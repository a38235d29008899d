/- Layer 27 (belief): a sign, by the program. No condition. -/
import Derived.Test.YtgfmjmfphmjdkaaGreatDoorR3BA
import Derived.Test.YtgfmjmfphmjdkaaGreatDoorR3H1
set_option linter.unusedSimpArgs false
set_option linter.unusedVariables false
set_option linter.unusedSectionVars false
namespace Go.Proofs.YtgfmjmfphmjdkaaGreatDoor
set_option maxHeartbeats 4000000
open Go Go.RowKit
set_option maxRecDepth 100000
theorem zi9 {w x y : Int} (hw : 0 ≤ w) (hx : 0 ≤ x) (hy : 0 ≤ y) : (y * w + x).toNat = y.toNat * w.toNat + x.toNat:=by
 obtain ⟨w,rfl⟩:=Int.eq_ofNat_of_zero_le hw
 obtain ⟨x,rfl⟩:=Int.eq_ofNat_of_zero_le hx
 obtain ⟨y,rfl⟩:=Int.eq_ofNat_of_zero_le hy
 simp only [Int.toNat_natCast]
 rw [← Int.natCast_mul,← Int.natCast_add,Int.toNat_natCast]
theorem zjt {w h p n : Nat} {l : List zj} (hl : l.length = w * h) (hp : p + n ≤ w * h) : 0 < (p + n) % w → p + n < l.length:=fun k=>by
 rcases Nat.lt_or_ge (p + n) l.length with e | e
 ·exact e
 ·rw [show p + n = w * h by omega,Nat.mul_mod_right] at k; omega
theorem zbl {w h : Int} {l : List zj} {x y : Int} {b : Bool} (h1 : yx w h l x y b true = true) : (2 ≤ w ∧ w ≤ 80 ∧ 1 ≤ h ∧ h ≤ 24) ∧ (0 ≤ x ∧ x < w ∧ 0 ≤ y ∧ y < h) ∧ (l.length : Int) = w * h ∧ l.length ≤ 1920 ∧ (0 ≤ y * w ∧ y * w ≤ 1920) ∧ GOk w.toNat l ∧ l.length = w.toNat * h.toNat:=by
 obtain ⟨w',h',rfl,rfl,w2,w3,w4,w5,hl,hk,p1,p2⟩:=qn.1 h1
 obtain ⟨q1,q2,q3,q4,q5⟩:=p1 rfl
 have hm:=zgn (w:=w') (h:=h') (y:=y) (by omega) (by omega) (by omega)
 have:=yg w3 w5
 exact ⟨by omega,by omega,by rw [hl]; exact Int.natCast_mul w' h',by omega,by omega,by simpa using hk,by simpa using hl⟩
theorem zeq {p : Nat} {w h : Int} {u : Value} {x x' y : Int} {b b' s : Bool} (hx : x = x') (hb : b = b') : beO p w h u x y b s = beO p w h u x' y b' s:=by rw [hx,hb]
variable {T0 : Gh} [TabS T0]
attribute [local irreducible] zz zg AW AL AO QY qh z_ rsA Opd xh vA gvA zy qb slA jl ipA rpA EqK LnK IxK LdK FaK FdK
theorem zpl (w h : Int) (u : Value) (x y : Int) (b s : Bool) (c : Cmd) (hx : -1000 ≤ x ∧ x ≤ 1000) : AP Tryz.prog T0 119 [qb [I w,I h,vA u,I x,I y,B b,B s],yw c] (B (decide (c.1 = 1) && (b || decide (w < x + (zh c.2.2.2).length)))):=by
 obtain ⟨k,a,d,r⟩:=c
 have hr : (zh r).length ≤ 2:=(wq r).2
 have cw:=zb8 (T0:=T0) r
 generalize (zh r).length = n at *
 refine za Tryz.func119 rfl (by decide) Tryz.ntmps119 rfl ?_
 repeat' (first
 |refine qa_ ?_ | (refine zd ?_ ?_ <;> intro hb <;> try exact no_) | (refine sx_ ?_ <;> intro bb) | (refine su_ ?_ <;> intro u hu1 hu2) | fail)
 refine ⟨_,[],rl_,List.nil_sublist _,Sub.eq (congrArg B ?_),rfl⟩
 first | rfl | (cases b <;> simp) | skip
theorem z0e (p : Nat) (w h : Int) (u : Value) (l : List zj) (x y : Int) (b : Bool) (r : Int) (h1 : yx w h l x y b true = true) (hs : ja r = true) : AF Tryz.prog T0 68 [ptA p,yw (1,0,0,r)] [beO p w h u x y b true,gsO u l]
  (fun _ M'=>M' = [gsO u (j_ w.toNat h.toNat l x.toNat y.toNat b (1,0,0,r)),beO p w h u (yj w h x y b (1,0,0,r)).1 (yj w h x y b (1,0,0,r)).2.1 (yj w h x y b (1,0,0,r)).2.2 true]):=by
 obtain ⟨hw,hx,hl,hl2,hm,hg,hl3⟩:=zbl h1
 have hn:=j5 hs
 have c2:=zg_ (T0:=T0) r
 have hlen:=Int.toNat_of_nonneg (show 0 ≤ w by omega)
 have hlen2:=Int.toNat_of_nonneg (show 0 ≤ h by omega)
 have hlx:=Int.toNat_of_nonneg hx.1
 have hly:=Int.toNat_of_nonneg hx.2.2.1
 by_cases hq : b = true ∨ w < x + (zh r).length
 ·have hdg : (zhd w h l y).length = l.length:=by
   unfold zhd; split
   ·exact zi8 (by rw [hl3]; exact Nat.le_mul_of_pos_right _ (by omega))
   ·rfl
  have hdy : 0 ≤ yf h y ∧ yf h y < h:=by unfold yf; split <;> omega
  have hm2:=zgn (w:=w) (h:=h) (y:=yf h y) (by omega) (by omega) hdy
  have hri:=zbt (h:=h.toNat) (w:=w.toNat) (y:=(yf h y).toNat) (x:=0) (n:=(zh r).length) (by omega) (by omega)
  have hat:=zi9 (w:=w) (x:=0) (y:=yf h y) (by omega) (by omega) hdy.1
  have cd:=zpw (T0:=T0) p w h u l x y b true hw hl ⟨hx.2.2.1,hx.2.2.2⟩
  have cl:=zfp (T0:=T0) w h u (zhd w h l y) 0 (yf h y) b true (yf h y * w + 0) (zh r) (by omega) (by omega) (by omega) (by omega) (by
   have : (yf h y * w + 0).toNat + (zh r).length ≤ l.length:=by rw [hat,hl3]; exact hri
   omega) (by
   rw [hat,hdg]
   exact zjt (h:=h.toNat) hl3 hri)
  have eL : yi w.toNat (zhd w h l y) (yf h y * w + 0).toNat (zh r) = j_ w.toNat h.toNat l x.toNat y.toNat b (1,0,0,r):=by
   rw [hat]
   show _ = zf8 w.toNat h.toNat l x.toNat y.toNat b (zh r)
   unfold zf8 zhd yf
   rw [if_pos (show b = true ∨ w.toNat < x.toNat + (zh r).length by rcases hq with q | q; exact .inl q; exact .inr (by omega))]
   by_cases e : y = h - 1
   ·rw [if_pos e,if_pos e,if_neg (by omega),Int.toNat_zero,Nat.add_zero]
   ·rw [if_neg e,if_neg e,if_pos (by omega),Int.toNat_zero,Nat.add_zero,show (y + 1).toNat = y.toNat + 1 by omega]
  rw [eL] at cl
  have eC : yj w h x y b (1,0,0,r) = (if (0 : Int) + (zh r).length = w then w - 1 else 0 + (zh r).length,yf h y,decide ((0 : Int) + (zh r).length = w)):=by
   show (v_ w h [] x y b r).2.2.2 = _
   unfold v_
   rw [if_pos hq]
   show (inM (0 + ((zh r).length : Int)) (w - 1),(kj w h [] y).2,decide ((0 : Int) + (zh r).length = w)) = _
   congr 1
   ·unfold inM; split <;> omega
   ·congr 1
    unfold kj yf; split <;> rfl
  rw [eC]
  have c1 : AP Tryz.prog T0 119 [qb [I w,I h,vA u,I x,I y,B b,B true],yw (1,0,0,r)] (B true):=(zpl (T0:=T0) w h u x y b true (1,0,0,r) (by omega)).to (congrArg B (by rcases hq with q | q <;> simp [q]))
  generalize j_ w.toNat h.toNat l x.toNat y.toNat b (1,0,0,r) = L2 at *
  generalize zhd w h l y = L1 at *
  generalize yf h y = Y at *
  generalize zh r = cs at *
  clear eL eC hat hri
  by_cases hf : (0 : Int) + cs.length = w
  ·rw [if_pos hf,show decide ((0 : Int) + cs.length = w) = true by simpa using hf]
   refine za Tryz.func68 rfl (by decide) Tryz.ntmps68 rfl ?_
   repeat' (first
   |(apply j9 rfl rfl rfl rfl (c:=cd)
     case ha=>exact os_
     case hM=>exact zf
     case hM2=>exact zf
     rintro _ _ rfl
     simp only [List.cons_append,List.nil_append,List.append_eq])
    |(apply zb rfl rfl rfl rfl (c:=cl)
      case ha=>exact os_
      case hM=>exact zf
      rintro _ _ rfl
      simp only [List.cons_append,List.nil_append,List.append_eq])
   |refine z9f ?_ | (refine zd ?_ ?_ <;> intro hb <;> try exact no_) | (refine sx_ ?_ <;> intro bb) | (refine su_ ?_ <;> intro u hu1 hu2) | fail)
   all_goals first | exact e5_ | skip
   all_goals first | refine ⟨_,_,rl_,List.Sublist.cons_cons _ (List.Sublist.cons_cons _ (List.nil_sublist _)),congrArg (List.cons _) (congrArg (fun z=>[z]) (zeq ?_ ?_))⟩ | refine ⟨_,_,rl_,List.Sublist.cons_cons _ (List.Sublist.cons _ (List.Sublist.refl _)),congrArg (List.cons _) (congrArg (fun z=>[z]) (zeq ?_ ?_))⟩
   all_goals first | omega | exact decide_eq_true (by omega) | exact decide_eq_false (by omega)
  ·rw [if_neg hf,show decide ((0 : Int) + cs.length = w) = false by simpa using hf]
   refine za Tryz.func68 rfl (by decide) Tryz.ntmps68 rfl ?_
   repeat' (first
   |(apply j9 rfl rfl rfl rfl (c:=cd)
     case ha=>exact os_
     case hM=>exact zf
     case hM2=>exact zf
     rintro _ _ rfl
     simp only [List.cons_append,List.nil_append,List.append_eq])
    |(apply zb rfl rfl rfl rfl (c:=cl)
      case ha=>exact os_
      case hM=>exact zf
      rintro _ _ rfl
      simp only [List.cons_append,List.nil_append,List.append_eq])
   |refine z9f ?_ | (refine zd ?_ ?_ <;> intro hb <;> try exact no_) | (refine sx_ ?_ <;> intro bb) | (refine su_ ?_ <;> intro u hu1 hu2) | fail)
   all_goals first | exact e5_ | skip
   all_goals first | refine ⟨_,_,rl_,List.Sublist.cons_cons _ (List.Sublist.cons_cons _ (List.nil_sublist _)),congrArg (List.cons _) (congrArg (fun z=>[z]) (zeq ?_ ?_))⟩ | refine ⟨_,_,rl_,List.Sublist.cons_cons _ (List.Sublist.cons _ (List.Sublist.refl _)),congrArg (List.cons _) (congrArg (fun z=>[z]) (zeq ?_ ?_))⟩
   all_goals first | omega | exact decide_eq_true (by omega) | exact decide_eq_false (by omega)
 ·have cd : True:=trivial
  have hri:=zbt (h:=h.toNat) (w:=w.toNat) (y:=y.toNat) (x:=x.toNat) (n:=(zh r).length) (by omega) (by omega)
  have hat:=zi9 (w:=w) (x:=x) (y:=y) (by omega) (by omega) (by omega)
  have cl:=zfp (T0:=T0) w h u l x y b true (y * w + x) (zh r) (by omega) (by omega) (by omega) (by omega) (by
   have : (y * w + x).toNat + (zh r).length ≤ l.length:=by rw [hat,hl3]; exact hri
   omega) (by
   rw [hat]
   exact zjt (h:=h.toNat) hl3 hri)
  have eL : yi w.toNat l (y * w + x).toNat (zh r) = j_ w.toNat h.toNat l x.toNat y.toNat b (1,0,0,r):=by
   rw [hat]
   show _ = zf8 w.toNat h.toNat l x.toNat y.toNat b (zh r)
   unfold zf8
   rw [if_neg (show ¬ (b = true ∨ w.toNat < x.toNat + (zh r).length) by rintro (q | q); exact hq (.inl q); exact hq (.inr (by omega)))]
  rw [eL] at cl
  have eC : yj w h x y b (1,0,0,r) = (if x + (zh r).length = w then w - 1 else x + (zh r).length,y,decide (x + (zh r).length = w)):=by
   show (v_ w h [] x y b r).2.2.2 = _
   unfold v_
   rw [if_neg hq]
   show (inM (x + ((zh r).length : Int)) (w - 1),y,decide (x + (zh r).length = w)) = _
   congr 1
   unfold inM; split <;> omega
  rw [eC]
  have c1 : AP Tryz.prog T0 119 [qb [I w,I h,vA u,I x,I y,B b,B true],yw (1,0,0,r)] (B false):=(zpl (T0:=T0) w h u x y b true (1,0,0,r) (by omega)).to (congrArg B (by
   cases b with
   |true=>exact absurd (.inl rfl) hq
   |false=>simp; omega))
  generalize j_ w.toNat h.toNat l x.toNat y.toNat b (1,0,0,r) = L2 at *
  generalize zh r = cs at *
  clear eL eC hat hri
  by_cases hf : x + (cs.length : Int) = w
  ·rw [if_pos hf,show decide (x + (cs.length : Int) = w) = true by simpa using hf]
   refine za Tryz.func68 rfl (by decide) Tryz.ntmps68 rfl ?_
   repeat' (first
   |(apply j9 rfl rfl rfl rfl (c:=cd)
     case ha=>exact os_
     case hM=>exact zf
     case hM2=>exact zf
     rintro _ _ rfl
     simp only [List.cons_append,List.nil_append,List.append_eq])
    |(apply zb rfl rfl rfl rfl (c:=cl)
      case ha=>exact os_
      case hM=>exact zf
      rintro _ _ rfl
      simp only [List.cons_append,List.nil_append,List.append_eq])
   |refine z9f ?_ | (refine zd ?_ ?_ <;> intro hb <;> try exact no_) | (refine sx_ ?_ <;> intro bb) | (refine su_ ?_ <;> intro u hu1 hu2) | fail)
   all_goals first | exact e5_ | skip
   all_goals first | refine ⟨_,_,rl_,List.Sublist.cons_cons _ (List.Sublist.cons_cons _ (List.nil_sublist _)),congrArg (List.cons _) (congrArg (fun z=>[z]) (zeq ?_ ?_))⟩ | refine ⟨_,_,rl_,List.Sublist.cons_cons _ (List.Sublist.cons _ (List.Sublist.refl _)),congrArg (List.cons _) (congrArg (fun z=>[z]) (zeq ?_ ?_))⟩
   all_goals first | omega | exact decide_eq_true (by omega) | exact decide_eq_false (by omega)
  ·rw [if_neg hf,show decide (x + (cs.length : Int) = w) = false by simpa using hf]
   refine za Tryz.func68 rfl (by decide) Tryz.ntmps68 rfl ?_
   repeat' (first
   |(apply j9 rfl rfl rfl rfl (c:=cd)
     case ha=>exact os_
     case hM=>exact zf
     case hM2=>exact zf
     rintro _ _ rfl
     simp only [List.cons_append,List.nil_append,List.append_eq])
    |(apply zb rfl rfl rfl rfl (c:=cl)
      case ha=>exact os_
      case hM=>exact zf
      rintro _ _ rfl
      simp only [List.cons_append,List.nil_append,List.append_eq])
   |refine z9f ?_ | (refine zd ?_ ?_ <;> intro hb <;> try exact no_) | (refine sx_ ?_ <;> intro bb) | (refine su_ ?_ <;> intro u hu1 hu2) | fail)
   all_goals first | exact e5_ | skip
   all_goals first | refine ⟨_,_,rl_,List.Sublist.cons_cons _ (List.Sublist.cons_cons _ (List.nil_sublist _)),congrArg (List.cons _) (congrArg (fun z=>[z]) (zeq ?_ ?_))⟩ | refine ⟨_,_,rl_,List.Sublist.cons_cons _ (List.Sublist.cons _ (List.Sublist.refl _)),congrArg (List.cons _) (congrArg (fun z=>[z]) (zeq ?_ ?_))⟩
   all_goals first | omega | exact decide_eq_true (by omega) | exact decide_eq_false (by omega)
end Go.Proofs.YtgfmjmfphmjdkaaGreatDoor
