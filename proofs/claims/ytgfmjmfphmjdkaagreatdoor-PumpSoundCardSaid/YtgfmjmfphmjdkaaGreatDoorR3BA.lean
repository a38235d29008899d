/- Layer 27 (belief): the next row, and a sign, by the program. No condition. -/
import Derived.Test.YtgfmjmfphmjdkaaGreatDoorR3B9
set_option linter.unusedSimpArgs false
set_option linter.unusedVariables false
set_option linter.unusedSectionVars false
namespace Go.Proofs.YtgfmjmfphmjdkaaGreatDoor
set_option maxHeartbeats 4000000
open Go Go.RowKit
set_option maxRecDepth 100000
abbrev beO (p : Nat) (w h : Int) (u : Value) (x y : Int) (b s : Bool) : Own:=qh p 24 [I w,I h,vA u,I x,I y,B b,B s]
abbrev gsO (u : Value) (l : List zj) : Own:=z_ guT 96 u l
variable {T0 : Gh} [TabS T0]
theorem AF.toL {f : FuncId} {As : List AV} {M L L' : List Own} (h : AF Tryz.prog T0 f As M (fun _ M'=>M' = L)) (e : L = L') : AF Tryz.prog T0 f As M (fun _ M'=>M' = L'):=e ▸ h
attribute [local irreducible] zz zg AW AL AO QY qh z_ rsA Opd xh vA gvA zy qb slA jl ipA rpA EqK LnK IxK LdK FaK FdK
theorem zvw (p : Nat) (w h : Int) (u : Value) (l : List zj) (x y : Int) (b s : Bool) (hh : h ≤ 24) (hy : 0 ≤ y ∧ y < h - 1) : AF Tryz.prog T0 69 [ptA p] [beO p w h u x y b s,gsO u l] (fun _ M'=>M' = [beO p w h u x (y + 1) b s,gsO u l]):=by
 have heq : True:=trivial
 refine za Tryz.func69 rfl (by decide) Tryz.ntmps69 rfl ?_
 repeat' (first
 |refine zcc ?_ | refine zzx ?_
  |refine jd ?_ (hy:=by first | (apply ze rfl; exact oo_; done) | (apply ze rfl; exact ql; done)
                                |(apply qg rfl un_ el_; exact oo_; exact kx; exact lo_; exact hi_; exact lt_; exact le_; done)
                                |(apply qk rfl un_ el_; exact oo_; exact kx; exact lo_; exact hi_; exact heq; exact le_; done) | fail)
 |refine zzw ?_
  |refine qj ?_ (hy:=by intro hk hk2; first | (apply ze rfl; exact oo_; done) | (apply ze rfl; exact ql; done)
                                              |(apply qg rfl un_ el_; exact oo_; exact kx; exact lo_; exact hi_; exact lt_; exact le_; done)
                                              |(apply qk rfl un_ el_; exact oo_; exact kx; exact lo_; exact hi_; exact heq; exact le_; done) | fail)
 |refine sw_ ?_ | (refine zd ?_ ?_ <;> intro hb <;> try exact no_) | (refine sx_ ?_ <;> intro bb) | (refine su_ ?_ <;> intro u hu1 hu2) | fail)
 all_goals first | (exfalso; omega) | exact ⟨_,_,rl_,List.Sublist.refl _,rfl⟩ | skip
theorem zvv (p : Nat) (w h : Nat) (u : Value) (l : List zj) (x y : Int) (b s : Bool) (h1 : 2 ≤ w) (h2 : w ≤ 80) (h3 : 1 ≤ h) (h4 : h ≤ 24) (hl : l.length = w * h) (hy : y = (h : Int) - 1) : AF Tryz.prog T0 69 [ptA p] [beO p w h u x y b s,gsO u l] (fun _ M'=>M' = [beO p w h u x y b s,gsO u (upB w l)]):=by
 have hb:=yg h2 h4
 have hwl : w ≤ l.length:=by rw [hl]; exact Nat.le_mul_of_pos_right w h3
 by_cases heq : w = l.length
 ·refine za Tryz.func69 rfl (by decide) Tryz.ntmps69 rfl ?_
  repeat' (first
  |refine zcc ?_ | refine zzx ?_
   |refine jd ?_ (hy:=by first | (apply ze rfl; exact oo_; done) | (apply ze rfl; exact ql; done)
                                 |(apply qg rfl un_ el_; exact oo_; exact kx; exact lo_; exact hi_; exact lt_; exact le_; done)
                                 |(apply qk rfl un_ el_; exact oo_; exact kx; exact lo_; exact hi_; exact heq; exact le_; done) | fail)
  |refine zzw ?_
   |refine qj ?_ (hy:=by intro hk hk2; first | (apply ze rfl; exact oo_; done) | (apply ze rfl; exact ql; done)
                                               |(apply qg rfl un_ el_; exact oo_; exact kx; exact lo_; exact hi_; exact lt_; exact le_; done)
                                               |(apply qk rfl un_ el_; exact oo_; exact kx; exact lo_; exact hi_; exact heq; exact le_; done) | fail)
  |refine sw_ ?_ | (refine zd ?_ ?_ <;> intro hb <;> try exact no_) | (refine sx_ ?_ <;> intro bb) | (refine su_ ?_ <;> intro u hu1 hu2) | fail)
  all_goals first | exact e1_ | skip
  obtain ⟨L0,hL0⟩ : ∃ L0 : List zj,L0 = ovr l 0 (List.take l.length []):=⟨_,rfl⟩
  rw [← hL0]
  have hlen : L0.length = l.length:=by rw [hL0]; simp [ovr]
  have htk : L0.take (L0.length - w) = l.drop w:=by rw [hlen,hL0]; simp [ovr,heq]
  clear hL0
  repeat' (first
  |refine zcc ?_ | refine zzx ?_
   |refine jd ?_ (hy:=by first | (apply ze rfl; exact oo_; done) | (apply ze rfl; exact ql; done)
                                 |(apply qg rfl un_ el_; exact oo_; exact kx; exact lo_; exact hi_; exact lt_; exact le_; done)
                                 |(apply qk rfl un_ el_; exact oo_; exact kx; exact lo_; exact hi_; exact heq; exact le_; done) | fail)
  |refine zzw ?_
   |refine qj ?_ (hy:=by intro hk hk2; first | (apply ze rfl; exact oo_; done) | (apply ze rfl; exact ql; done)
                                               |(apply qg rfl un_ el_; exact oo_; exact kx; exact lo_; exact hi_; exact lt_; exact le_; done)
                                               |(apply qk rfl un_ el_; exact oo_; exact kx; exact lo_; exact hi_; exact heq; exact le_; done) | fail)
  |refine sw_ ?_ | (refine zd ?_ ?_ <;> intro hb <;> try exact no_) | (refine sx_ ?_ <;> intro bb) | (refine su_ ?_ <;> intro u hu1 hu2) | fail)
  all_goals first | exact e1_ | skip
  refine zsa (d:=fun k : Nat=>[(2,I ((L0.length - w + k : Nat)))]) (g:=fun k=>ovr L0 (L0.length - w) ((List.replicate w xw).take k)) (fun k=>k ≤ w) (fun k=>w - k) 0 (Nat.zero_le _) ?_ ?_
  ·simp [ovr]
  rintro k k1
  obtain ⟨l4,hl4⟩ : ∃ l4,l4 = ovr L0 (L0.length - w) ((List.replicate w xw).take k):=⟨_,rfl⟩
  have hl3 : l4.length = L0.length:=by rw [hl4,j7 (by simp; omega)]
  by_cases hlt : k < w
  ·have hst:=ua L0 (L0.length - w) (List.replicate w xw) k xw (by simp [hlt]) (by simp; omega)
   rw [← hl4] at hst ⊢
   repeat' (first
   |refine zcc ?_ | refine zzx ?_
    |refine jd ?_ (hy:=by first | (apply ze rfl; exact oo_; done) | (apply ze rfl; exact ql; done)
                                  |(apply qg rfl un_ el_; exact oo_; exact kx; exact lo_; exact hi_; exact lt_; exact le_; done)
                                  |(apply qk rfl un_ el_; exact oo_; exact kx; exact lo_; exact hi_; exact heq; exact le_; done) | fail)
   |refine zzw ?_
    |refine qj ?_ (hy:=by intro hk hk2; first | (apply ze rfl; exact oo_; done) | (apply ze rfl; exact ql; done)
                                                |(apply qg rfl un_ el_; exact oo_; exact kx; exact lo_; exact hi_; exact lt_; exact le_; done)
                                                |(apply qk rfl un_ el_; exact oo_; exact kx; exact lo_; exact hi_; exact heq; exact le_; done) | fail)
   |refine sw_ ?_ | (refine zd ?_ ?_ <;> intro hb <;> try exact no_) | (refine sx_ ?_ <;> intro bb) | (refine su_ ?_ <;> intro u hu1 hu2) | fail)
   all_goals first | exact e1_ | skip
   refine ⟨k + 1,by omega,by omega,wx_, ?_⟩
   rw [← hst]; exact sl_
  ·obtain rfl : k = w:=by omega
   have hend : l4 = upB k l:=by
    have hdr : L0.drop (L0.length - k + k) = []:=List.drop_of_length_le (by omega)
    rw [hl4,List.take_of_length_le (by simp),ovr,htk,List.length_replicate,hdr,List.append_nil]; rfl
   rw [← hl4]
   repeat' (first
   |refine zcc ?_ | refine zzx ?_
    |refine jd ?_ (hy:=by first | (apply ze rfl; exact oo_; done) | (apply ze rfl; exact ql; done)
                                  |(apply qg rfl un_ el_; exact oo_; exact kx; exact lo_; exact hi_; exact lt_; exact le_; done)
                                  |(apply qk rfl un_ el_; exact oo_; exact kx; exact lo_; exact hi_; exact heq; exact le_; done) | fail)
   |refine zzw ?_
    |refine qj ?_ (hy:=by intro hk hk2; first | (apply ze rfl; exact oo_; done) | (apply ze rfl; exact ql; done)
                                                |(apply qg rfl un_ el_; exact oo_; exact kx; exact lo_; exact hi_; exact lt_; exact le_; done)
                                                |(apply qk rfl un_ el_; exact oo_; exact kx; exact lo_; exact hi_; exact heq; exact le_; done) | fail)
   |refine sw_ ?_ | (refine zd ?_ ?_ <;> intro hb <;> try exact no_) | (refine sx_ ?_ <;> intro bb) | (refine su_ ?_ <;> intro u hu1 hu2) | fail)
   all_goals first | exact e1_ | skip
   refine ⟨_,_,rl_,List.Sublist.refl _, ?_⟩
   rw [hend]
 ·refine za Tryz.func69 rfl (by decide) Tryz.ntmps69 rfl ?_
  repeat' (first
  |refine zcc ?_ | refine zzx ?_
   |refine jd ?_ (hy:=by first | (apply ze rfl; exact oo_; done) | (apply ze rfl; exact ql; done)
                                 |(apply qg rfl un_ el_; exact oo_; exact kx; exact lo_; exact hi_; exact lt_; exact le_; done)
                                 |(apply qk rfl un_ el_; exact oo_; exact kx; exact lo_; exact hi_; exact heq; exact le_; done) | fail)
  |refine zzw ?_
   |refine qj ?_ (hy:=by intro hk hk2; first | (apply ze rfl; exact oo_; done) | (apply ze rfl; exact ql; done)
                                               |(apply qg rfl un_ el_; exact oo_; exact kx; exact lo_; exact hi_; exact lt_; exact le_; done)
                                               |(apply qk rfl un_ el_; exact oo_; exact kx; exact lo_; exact hi_; exact heq; exact le_; done) | fail)
  |refine sw_ ?_ | (refine zd ?_ ?_ <;> intro hb <;> try exact no_) | (refine sx_ ?_ <;> intro bb) | (refine su_ ?_ <;> intro u hu1 hu2) | fail)
  all_goals first | exact e1_ | skip
  have htt : List.take l.length (List.take (l.length - w) (List.drop w l)) = l.drop w:=by
   rw [List.take_of_length_le (i:=l.length - w) (by simp),List.take_of_length_le (by simp)]
  obtain ⟨L0,hL0⟩ : ∃ L0 : List zj,L0 = ovr l 0 (List.take l.length (List.take (l.length - w) (List.drop w l))):=⟨_,rfl⟩
  rw [← hL0]
  have hlen : L0.length = l.length:=by rw [hL0]; rw [htt,j7 (by simp)]
  have htk : L0.take (L0.length - w) = l.drop w:=by rw [hlen,hL0]; rw [htt,ovr]; simp
  clear hL0
  repeat' (first
  |refine zcc ?_ | refine zzx ?_
   |refine jd ?_ (hy:=by first | (apply ze rfl; exact oo_; done) | (apply ze rfl; exact ql; done)
                                 |(apply qg rfl un_ el_; exact oo_; exact kx; exact lo_; exact hi_; exact lt_; exact le_; done)
                                 |(apply qk rfl un_ el_; exact oo_; exact kx; exact lo_; exact hi_; exact heq; exact le_; done) | fail)
  |refine zzw ?_
   |refine qj ?_ (hy:=by intro hk hk2; first | (apply ze rfl; exact oo_; done) | (apply ze rfl; exact ql; done)
                                               |(apply qg rfl un_ el_; exact oo_; exact kx; exact lo_; exact hi_; exact lt_; exact le_; done)
                                               |(apply qk rfl un_ el_; exact oo_; exact kx; exact lo_; exact hi_; exact heq; exact le_; done) | fail)
  |refine sw_ ?_ | (refine zd ?_ ?_ <;> intro hb <;> try exact no_) | (refine sx_ ?_ <;> intro bb) | (refine su_ ?_ <;> intro u hu1 hu2) | fail)
  all_goals first | exact e1_ | skip
  refine zsa (d:=fun k : Nat=>[(2,I ((L0.length - w + k : Nat)))]) (g:=fun k=>ovr L0 (L0.length - w) ((List.replicate w xw).take k)) (fun k=>k ≤ w) (fun k=>w - k) 0 (Nat.zero_le _) ?_ ?_
  ·simp [ovr]
  rintro k k1
  obtain ⟨l4,hl4⟩ : ∃ l4,l4 = ovr L0 (L0.length - w) ((List.replicate w xw).take k):=⟨_,rfl⟩
  have hl3 : l4.length = L0.length:=by rw [hl4,j7 (by simp; omega)]
  by_cases hlt : k < w
  ·have hst:=ua L0 (L0.length - w) (List.replicate w xw) k xw (by simp [hlt]) (by simp; omega)
   rw [← hl4] at hst ⊢
   repeat' (first
   |refine zcc ?_ | refine zzx ?_
    |refine jd ?_ (hy:=by first | (apply ze rfl; exact oo_; done) | (apply ze rfl; exact ql; done)
                                  |(apply qg rfl un_ el_; exact oo_; exact kx; exact lo_; exact hi_; exact lt_; exact le_; done)
                                  |(apply qk rfl un_ el_; exact oo_; exact kx; exact lo_; exact hi_; exact heq; exact le_; done) | fail)
   |refine zzw ?_
    |refine qj ?_ (hy:=by intro hk hk2; first | (apply ze rfl; exact oo_; done) | (apply ze rfl; exact ql; done)
                                                |(apply qg rfl un_ el_; exact oo_; exact kx; exact lo_; exact hi_; exact lt_; exact le_; done)
                                                |(apply qk rfl un_ el_; exact oo_; exact kx; exact lo_; exact hi_; exact heq; exact le_; done) | fail)
   |refine sw_ ?_ | (refine zd ?_ ?_ <;> intro hb <;> try exact no_) | (refine sx_ ?_ <;> intro bb) | (refine su_ ?_ <;> intro u hu1 hu2) | fail)
   all_goals first | exact e1_ | skip
   refine ⟨k + 1,by omega,by omega,wx_, ?_⟩
   rw [← hst]; exact sl_
  ·obtain rfl : k = w:=by omega
   have hend : l4 = upB k l:=by
    have hdr : L0.drop (L0.length - k + k) = []:=List.drop_of_length_le (by omega)
    rw [hl4,List.take_of_length_le (by simp),ovr,htk,List.length_replicate,hdr,List.append_nil]; rfl
   rw [← hl4]
   repeat' (first
   |refine zcc ?_ | refine zzx ?_
    |refine jd ?_ (hy:=by first | (apply ze rfl; exact oo_; done) | (apply ze rfl; exact ql; done)
                                  |(apply qg rfl un_ el_; exact oo_; exact kx; exact lo_; exact hi_; exact lt_; exact le_; done)
                                  |(apply qk rfl un_ el_; exact oo_; exact kx; exact lo_; exact hi_; exact heq; exact le_; done) | fail)
   |refine zzw ?_
    |refine qj ?_ (hy:=by intro hk hk2; first | (apply ze rfl; exact oo_; done) | (apply ze rfl; exact ql; done)
                                                |(apply qg rfl un_ el_; exact oo_; exact kx; exact lo_; exact hi_; exact lt_; exact le_; done)
                                                |(apply qk rfl un_ el_; exact oo_; exact kx; exact lo_; exact hi_; exact heq; exact le_; done) | fail)
   |refine sw_ ?_ | (refine zd ?_ ?_ <;> intro hb <;> try exact no_) | (refine sx_ ?_ <;> intro bb) | (refine su_ ?_ <;> intro u hu1 hu2) | fail)
   all_goals first | exact e1_ | skip
   refine ⟨_,_,rl_,List.Sublist.refl _, ?_⟩
   rw [hend]
def yf (h y : Int) : Int:=if y = h - 1 then y else y + 1
def zhd (w h : Int) (l : List zj) (y : Int) : List zj:=if y = h - 1 then upB w.toNat l else l
theorem zpw (p : Nat) (w h : Int) (u : Value) (l : List zj) (x y : Int) (b s : Bool) (hs : 2 ≤ w ∧ w ≤ 80 ∧ 1 ≤ h ∧ h ≤ 24) (hl : (l.length : Int) = w * h) (hy : 0 ≤ y ∧ y < h) : AF Tryz.prog T0 69 [ptA p] [beO p w h u x y b s,gsO u l] (fun _ M'=>M' = [beO p w h u x (yf h y) b s,gsO u (zhd w h l y)]):=by
 unfold yf zhd
 by_cases e : y = h - 1
 ·rw [if_pos e,if_pos e]
  obtain ⟨w,rfl⟩:=Int.eq_ofNat_of_zero_le (show 0 ≤ w by omega)
  obtain ⟨h,rfl⟩:=Int.eq_ofNat_of_zero_le (show 0 ≤ h by omega)
  exact zvv p w h u l x y b s (by omega) (by omega) (by omega) (by omega) (by rw [← Int.natCast_mul] at hl; omega) e
 ·rw [if_neg e,if_neg e]
  exact zvw p w h u l x y b s (by omega) (by omega)
end Go.Proofs.YtgfmjmfphmjdkaaGreatDoor
