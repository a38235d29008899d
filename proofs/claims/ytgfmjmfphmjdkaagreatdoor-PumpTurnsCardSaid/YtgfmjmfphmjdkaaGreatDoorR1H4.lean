/- Layer 27 (belief): the reference: new beliefs, are they right, what is laid, what is scrolled, where the cursor goes. No condition. -/
import Derived.Test.YtgfmjmfphmjdkaaGreatDoorR1BA
import Derived.Test.YtgfmjmfphmjdkaaGreatDoorR1H1
import Derived.Test.YtgfmjmfphmjdkaaGreatDoorR1B1
import Derived.Test.YtgfmjmfphmjdkaaGreatDoorR1BC
set_option linter.unusedSimpArgs false
set_option linter.unusedVariables false
set_option linter.unusedSectionVars false
namespace Go.Proofs.YtgfmjmfphmjdkaaGreatDoor
set_option maxHeartbeats 4000000
open Go Go.RowKit
variable {T0 : Gh} [TabS T0]
attribute [local irreducible] z_ zg AW AL AO QY qd zx rsA Opd xi vA gvA zt z0 slA jc ipA rpA EqK LnK IxK LdK FaK FdK
set_option maxRecDepth 100000
theorem zzt {w h : Nat} (h1 : 2 ≤ w) (h2 : w ≤ 80) (h3 : 1 ≤ h) (h4 : h ≤ 24) : qu w h = true:=by simp [qu]; omega
theorem zol (w h : Nat) (h1 : 2 ≤ w) (h2 : w ≤ 80) (h3 : 1 ≤ h) (h4 : h ≤ 24) : AF Tryz.prog T0 84 [I w,I h] [] (fun A M' => ∃ u,A = zt [z0 [I w,I h,vA u,I 0,I 0,B false,B false],I 0] ∧ M' = [zx guT 96 u (List.replicate (w * h) wg)]):=by
 have hb:=ks h2 h4
 have hnn : (0 : Int) ≤ ((w * h : Nat) : Int):=Int.natCast_nonneg _
 have c1 : AP Tryz.prog T0 127 [I w,I h] (B true):=(x7 w h).to (by rw [zzt h1 h2 h3 h4])
 refine za Tryz.func84 rfl (by decide) Tryz.ntmps84 rfl ?_
 repeat' (first
 |refine z98 ?_ | (refine zb ?_ ?_ <;> intro hb <;> try exact no_) | (refine sx_ ?_ <;> intro bb) | (refine su_ ?_ <;> intro u hu1 hu2) | fail)
 all_goals first | exact e2_ | skip
 rename_i b4
 refine zrx guT 96 ?_
 refine zjj (fun (k : Nat) (u : Value)=>[(0,I w),(1,I h),(4,vA (.pointer (some ⟨b4,0,none⟩))),(6,vA (.pointer (some ⟨bb,0,none⟩))),(7,I k)]) (fun k u=>[zx guT 96 u (List.replicate k wg),qd bb 24 [I w,I h,vA u,I 0,I 0,B false,B false],qd b4 24 [I 0,I 0,vA (.slice none 0 0),I 0,I 0,B false,B false]]) (fun k _=>k ≤ w * h) (fun k _=>w * h - k) 0 _ (Nat.zero_le _) wk_ (List.Sublist.refl _) ?_
 rintro k u i1
 refine zhx (List.Mem.head _) fun hu1 hu2 => ?_
 by_cases hlt : k < w * h
 ·repeat' (first
  |refine z98 ?_ | (refine zb ?_ ?_ <;> intro hb <;> try exact no_) | (refine sx_ ?_ <;> intro bb) | (refine su_ ?_ <;> intro u hu1 hu2) | fail)
  exact ⟨k + 1,_,by omega,by omega,wk_,by rw [List.replicate_succ']; exact List.Sublist.refl _⟩
 ·repeat' (first
  |refine z98 ?_ | (refine zb ?_ ?_ <;> intro hb <;> try exact no_) | (refine sx_ ?_ <;> intro bb) | (refine su_ ?_ <;> intro u hu1 hu2) | fail)
  exact ⟨_,[zx guT 96 u (List.replicate k wg)],rl_,sl_,u,rfl,by rw [show k = w * h by omega]⟩
theorem w6 (w h : Int) : AP Tryz.prog T0 84 [I w,I h] (zt [blA (yg w h).1,I (yg w h).2]):=by
 by_cases hs : qu w h = true
 ·obtain ⟨w,h,rfl,rfl,h1,h2,h3,h4⟩:=kx hs
  have:=(zol (T0:=T0) w h h1 h2 h3 h4).frz1 ze8
  rw [yg,if_pos hs]
  simpa only [Int.toNat_natCast] using this
 ·have c1 : AP Tryz.prog T0 127 [I w,I h] (B false):=(x7 w h).to (by simp [hs])
  rw [yg,if_neg hs]
  refine za Tryz.func84 rfl (by decide) Tryz.ntmps84 rfl ?_
  repeat' (first
  |refine z98 ?_ | (refine zb ?_ ?_ <;> intro hb <;> try exact no_) | (refine sx_ ?_ <;> intro bb) | (refine su_ ?_ <;> intro u hu1 hu2) | fail)
  all_goals first | (exfalso; simp at hb; done) | exact ⟨_,[],rl_,List.nil_sublist _,ka (qb (vx (qb (Sub.refl _) (qb (Sub.refl _) (qb zfd (qb (Sub.refl _) (qb (Sub.refl _) (qb (Sub.refl _) (qb (Sub.refl _) vj)))))))) (qb (Sub.refl _) vj)),rfl⟩ | skip
theorem z5x (w h : Nat) (l : List zi) (x y : Int) (b s : Bool) (i : Nat) (hl : l.length = w * h) (hb : w * h ≤ 1920) (h1 : 2 ≤ w) (h2 : w ≤ 80) (h3 : 1 ≤ h) (hi : i < l.length) : AP Tryz.prog T0 129 [jb w h l x y b s,I i] (B (znc w l i)):=by
 have hat:=znd hi
 have hnx : i % w < w - 1 → i + 1 < l.length:=fun k=>by
  rcases Nat.lt_or_ge (i + 1) l.length with z | z
  ·exact z
  ·have:=zfl (w:=w) (h:=h) (j:=i) (by omega) h3 (by omega); omega
 have hpv : 0 < i % w → 1 ≤ i:=fun k=>by
  rcases Nat.eq_zero_or_pos i with h | h
  ·subst h; simp at k
  ·exact h
 have hm:=Nat.mod_lt i (show 0 < w by omega)
 have gn : i + 1 < l.length → l[i + 1]? = some (gAt l (i + 1)):=fun h=>znd h
 have gp : 1 ≤ i → l[i - 1]? = some (gAt l (i - 1)):=fun h=>znd (by omega)
 have hr : znc w l i = znc w l i:=rfl
 conv at hr=>rhs; unfold znc
 generalize gAt l (i + 1) = gx at *
 generalize gAt l (i - 1) = gy at *
 generalize znc w l i = rk at *
 generalize gAt l i = g at *
 obtain ⟨⟨x1,x2⟩,x3⟩:=gx
 obtain ⟨⟨y1,y2⟩,y3⟩:=gy
 obtain ⟨⟨c1,c2⟩,sg⟩:=g
 refine za Tryz.func129 rfl (by decide) Tryz.ntmps129 rfl ?_
 repeat' (first
 |refine xr ?_ (hy:=by first | (apply zk6 rfl; exact oo_; exact on_; apply zam un_ el_; first | exact hat | exact gn gb_ | exact gp gb_) | fail) | refine qc ?_ (hy:=by intro hk hk2; first | (apply zk6 rfl; exact qe; exact zgo; apply zam un_ el_; first | exact gn gb_ | exact gp gb_) | fail) | refine sa_ ?_ | refine zw ?_ (c:=by first | exact wh (_,_) | fail) | refine xr ?_ (hy:=by first | exact kq rfl zfb sz_ oo_ (Nat.le_of_ble_eq_true rfl) | exact kq rfl zfb sz_ qe (Nat.le_of_ble_eq_true rfl) | fail) | refine x5 ?_ | refine zk ?_ (c:=by intro hk hk2; first | exact wh (_,_) | fail) | refine qc ?_ (hy:=by intro hk hk2; first | exact kq rfl zfb sz_ oo_ (Nat.le_of_ble_eq_true rfl) | exact kq rfl zfb sz_ qe (Nat.le_of_ble_eq_true rfl) | fail) | refine sw_ ?_ | (refine zb ?_ ?_ <;> intro hb <;> try exact no_) | (refine sx_ ?_ <;> intro bb) | (refine su_ ?_ <;> intro u hu1 hu2) | fail)
 all_goals first | refine ⟨_,[],rl_,List.nil_sublist _,Sub.eq (congrArg B ?_),rfl⟩ | skip
 all_goals first | rw [hr] | skip
 all_goals first | (simp_all; done) | (cases sg <;> simp_all; done) | skip
 ·rw [show decide (((i % w : Nat) : Int) < ((w - 1 : Nat) : Int)) = decide (i % w < w - 1) by rw [decide_eq_decide]; omega]
  generalize decide (i % w < w - 1) = q at *
  cases x3 <;> simp_all
 ·rw [show decide ((0 : Int) < ((i % w : Nat) : Int)) = decide (0 < i % w) by rw [decide_eq_decide]; omega]
  generalize decide (0 < i % w) = q at *
  cases y3 <;> simp_all
noncomputable instance (w : Nat) (l : List zi) : Decidable (GOk w l):=Classical.propDecidable _
theorem kd (w h : Int) (l : List zi) (x y : Int) (b s : Bool) : AP Tryz.prog T0 89 [jb w h l x y b s] (B (vr w h l x y b s)):=by
 by_cases hs : qu w h = true
 ·have c1 : AP Tryz.prog T0 127 [I w,I h] (B true):=(x7 w h).to (by rw [hs])
  obtain ⟨w,h,rfl,rfl,h1,h2,h3,h4⟩:=kx hs
  have hb:=vb h2 h4
  have hnn : (0 : Int) ≤ ((w * h : Nat) : Int):=Int.natCast_nonneg _
  by_cases hlen : l.length = w * h
  ·have hok : vr w h l x y b s = ((decide (GOk w l)) && z7d w h x y b s):=by
    unfold vr; congr 1
    rw [decide_eq_decide]
    exact ⟨fun k=>by have:=k.2.2; simpa [GOk] using this,fun k=>⟨⟨by omega,by omega,by omega,by omega⟩,by rw [hlen]; exact Int.natCast_mul w h,by simpa [GOk] using k⟩⟩
   have cg : ∀ i,i < l.length → AP Tryz.prog T0 129 [jb w h l x y b s,I i] (B (znc w l i)):=fun i hi=>z5x w h l x y b s i hlen hb h1 h2 h3 hi
   generalize vr w h l x y b s = ok at *
   refine za Tryz.func89 rfl (by decide) Tryz.ntmps89 rfl ?_
   repeat' (first
   |refine z99 ?_ | (refine zb ?_ ?_ <;> intro hb <;> try exact no_) | (refine sx_ ?_ <;> intro bb) | (refine su_ ?_ <;> intro u hu1 hu2) | fail)
   all_goals first | (exfalso; simp at hb; omega) | (exfalso; omega) | skip
   refine yk (fun k : Nat=>[(3,I k)]) (fun k=>k ≤ l.length ∧ ∀ j,j < k → znc w l j = true) (fun k=>l.length - k) 0 ⟨Nat.zero_le _,fun _ k=>absurd k (Nat.not_lt_zero _)⟩ ?_
   rintro k ⟨k1,k2⟩
   by_cases hlt : k < l.length
   ·repeat' (first
    |refine z99 ?_ | (refine zb ?_ ?_ <;> intro hb <;> try exact no_) | (refine sx_ ?_ <;> intro bb) | (refine su_ ?_ <;> intro u hu1 hu2) | fail)
    all_goals first | exact e1_ | skip
    ·refine ⟨_,[],rl_,List.nil_sublist _,Sub.eq (congrArg B ?_),rfl⟩
     rw [hok,show decide (GOk w l) = false from decide_eq_false fun z=>by rw [z k hlt] at hb; cases hb]; rfl
    ·refine ⟨k + 1,⟨by omega,fun j hj => ?_⟩,by omega,wx_,sl_⟩
     by_cases e : j = k
     ·subst e; exact hb
     ·exact k2 j (by omega)
   ·have hall : decide (GOk w l) = true:=decide_eq_true fun j hj=>k2 j (by omega)
    rw [hall,Bool.true_and] at hok
    repeat' (first
    |refine z99 ?_ | (refine zb ?_ ?_ <;> intro hb <;> try exact no_) | (refine sx_ ?_ <;> intro bb) | (refine su_ ?_ <;> intro u hu1 hu2) | fail)
    all_goals first | exact e1_ | skip
    ·refine ⟨_,[],rl_,List.nil_sublist _,Sub.eq (congrArg B ?_),rfl⟩
     have hs : s = false:=by simpa using hb
     rw [hok,hs]; rfl
    ·refine ⟨_,[],rl_,List.nil_sublist _,Sub.eq (congrArg B ?_),rfl⟩
     have hs : s = true:=by simpa using hb
     rw [hok,hs,show (((w - 1 : Nat) : Int)) = (w : Int) - 1 by omega]; rfl
  ·rw [zj6 (fun z=>hlen (by have:=z.2; rw [← Int.natCast_mul] at this; omega))]
   have cg : True:=trivial
   refine za Tryz.func89 rfl (by decide) Tryz.ntmps89 rfl ?_
   repeat' (first
   |refine z99 ?_ | (refine zb ?_ ?_ <;> intro hb <;> try exact no_) | (refine sx_ ?_ <;> intro bb) | (refine su_ ?_ <;> intro u hu1 hu2) | fail)
   all_goals first | exact ⟨_,[],rl_,List.nil_sublist _,Sub.refl _,rfl⟩ | (exfalso; omega) | (exfalso; simp at hb; omega)
 ·rw [zj6 (fun z=>hs z.1)]
  have c1 : AP Tryz.prog T0 127 [I w,I h] (B false):=(x7 w h).to (by simp [hs])
  have cg : True:=trivial
  refine za Tryz.func89 rfl (by decide) Tryz.ntmps89 rfl ?_
  repeat' (first
  |refine sa_ ?_ | refine zw ?_ (c:=by first | exact c1 | exact cg _ (by omega) | fail) | refine xr ?_ (hy:=by first | exact zau rfl qe qe | fail) | refine x5 ?_ | refine zk ?_ (c:=by intro hk hk2; first | exact c1 | exact cg _ (by omega) | fail) | refine qc ?_ (hy:=by intro hk hk2; first | exact zau rfl qe qe | fail) | refine sw_ ?_ | (refine zb ?_ ?_ <;> intro hb <;> try exact no_) | (refine sx_ ?_ <;> intro bb) | (refine su_ ?_ <;> intro u hu1 hu2) | fail)
  all_goals first | exact ⟨_,[],rl_,List.nil_sublist _,Sub.refl _,rfl⟩ | (exfalso; simp at hb; done)
end Go.Proofs.YtgfmjmfphmjdkaaGreatDoor
namespace Go.Proofs.YtgfmjmfphmjdkaaGreatDoor
set_option maxHeartbeats 4000000
open Go Go.RowKit
set_option maxRecDepth 100000
theorem z4h {α : Type} {U l : List α} {k : Nat} {z : α} (hU : U.length = l.length) (hk : U[k]? = some z) : (U.take k ++ l.drop k).set k z = U.take (k + 1) ++ l.drop (k + 1):=by
 obtain ⟨h1,h2⟩:=List.getElem?_eq_some_iff.1 hk
 have e1 : (U.take k).length = k:=by rw [List.length_take]; omega
 rw [List.set_append_right _ _ (by omega),e1,Nat.sub_self,List.drop_eq_getElem_cons (show k < l.length by omega),List.set_cons_zero,List.take_succ_eq_append_getElem h1,h2]
 simp
variable {T0 : Gh} [TabS T0]
attribute [local irreducible] z_ zg AW AL AO QY qd zx rsA Opd xi vA gvA zt z0 slA jc ipA rpA EqK LnK IxK LdK FaK FdK
theorem zer : AP Tryz.prog T0 183 [] (guA qr):=by
 refine za Tryz.func183 rfl (by decide) Tryz.ntmps183 rfl ?_
 repeat' (first
 |refine g6_ ?_ | (refine zb ?_ ?_ <;> intro hb <;> try exact no_) | (refine sx_ ?_ <;> intro bb) | (refine su_ ?_ <;> intro u hu1 hu2) | fail)
 exact ⟨_,[],rl_,List.nil_sublist _,Sub.refl _,rfl⟩
theorem v7 (k : Int) : AP Tryz.prog T0 147 [I k] (B (chg k)):=by
 refine za Tryz.func147 rfl (by decide) Tryz.ntmps147 rfl ?_
 repeat' (first
 |refine g6_ ?_ | (refine zb ?_ ?_ <;> intro hb <;> try exact no_) | (refine sx_ ?_ <;> intro bb) | (refine su_ ?_ <;> intro u hu1 hu2) | fail)
 refine ⟨_,[],rl_,List.nil_sublist _,Sub.eq (congrArg B ?_),rfl⟩
 simp [chg]
theorem za8 (w h : Int) (l : List zi) (x y : Int) (b s : Bool) (hl : l.length ≤ 100000) : AF Tryz.prog T0 141 [jb w h l x y b s] [] (fun A M' => ∃ u,A = z0 [I w,I h,vA u,I x,I y,B b,B s] ∧ M' = [gsO u l]):=by
 refine za Tryz.func141 rfl (by decide) Tryz.ntmps141 rfl ?_
 repeat' (first
 |refine g6_ ?_ | (refine zb ?_ ?_ <;> intro hb <;> try exact no_) | (refine sx_ ?_ <;> intro bb) | (refine su_ ?_ <;> intro u hu1 hu2) | fail)
 exact ⟨_,[zx guT 96 u ([] ++ l)],rl_,sl_,u,rfl,rfl⟩
theorem zoi (w h : Int) (l : List zi) (x y : Int) (b s : Bool) (hl : l.length ≤ 100000) : AP Tryz.prog T0 141 [jb w h l x y b s] (jb w h l x y b s):=(za8 w h l x y b s hl).frz1 ze8
theorem zxj (n : Nat) (hn : n ≤ 100000) : AF Tryz.prog T0 154 [I n] [] (fun A M' => ∃ u,A = vA u ∧ M' = [zx qg 87 u (List.replicate n (32,0))]):=by
 refine za Tryz.func154 rfl (by decide) Tryz.ntmps154 rfl ?_
 repeat' (first
 |refine g6_ ?_ | (refine zb ?_ ?_ <;> intro hb <;> try exact no_) | (refine sx_ ?_ <;> intro bb) | (refine su_ ?_ <;> intro u hu1 hu2) | fail)
 refine z14 3 (fun k : Nat=>[(4,I k)]) (fun k=>List.replicate k ((32,0) : zp)) (fun k=>k ≤ n) (fun k=>n - k) 0 (Nat.zero_le _) rfl ?_
 rintro k u k1 hu1 hu2
 by_cases hlt : k < n
 ·repeat' (first
  |refine g6_ ?_ | (refine zb ?_ ?_ <;> intro hb <;> try exact no_) | (refine sx_ ?_ <;> intro bb) | (refine su_ ?_ <;> intro u hu1 hu2) | fail)
  all_goals first | exact e1_ | skip
  exact ⟨k + 1,_,by omega,by omega,wx_,by rw [List.replicate_succ']; exact List.Sublist.refl _⟩
 ·obtain rfl : k = n:=by omega
  repeat' (first
  |refine g6_ ?_ | (refine zb ?_ ?_ <;> intro hb <;> try exact no_) | (refine sx_ ?_ <;> intro bb) | (refine su_ ?_ <;> intro u hu1 hu2) | fail)
  all_goals first | exact e1_ | skip
  exact ⟨_,_,rl_,List.Sublist.refl _,u,rfl,rfl⟩
theorem zmg (n : Int) (h0 : 0 ≤ n) (hn : n ≤ 100000) : AP Tryz.prog T0 154 [I n] (slA qg (List.replicate n.toNat (32,0))):=by
 obtain ⟨n,rfl⟩:=Int.eq_ofNat_of_zero_le h0
 exact (zxj n (by omega)).frz1 ze8
theorem zs3 (w : Nat) (h : Int) (l : List zi) (x y : Int) (b s : Bool) (hw : w ≤ l.length) (hl : l.length ≤ 100000) : AF Tryz.prog T0 151 [jb w h l x y b s] [] (fun A M' => ∃ u,A = z0 [I w,I h,vA u,I x,I y,B b,B s] ∧ M' = [gsO u (upB w l)]):=by
 have co:=za8 (T0:=T0) w h l x y b s hl
 refine za Tryz.func151 rfl (by decide) Tryz.ntmps151 rfl ?_
 repeat' (first
 |(apply zj rfl rfl rfl rfl (c:=co)
   case ha=>exact os_
   rintro _ _ ⟨u,rfl,rfl⟩; refine zu (List.Mem.head _) fun hu1 hu2 => ?_)
 |refine z5i ?_ | (refine zb ?_ ?_ <;> intro hb <;> try exact no_) | (refine sx_ ?_ <;> intro bb) | (refine su_ ?_ <;> intro u hu1 hu2) | fail)
 obtain ⟨U,hU⟩ : ∃ U,U = upB w l:=⟨_,rfl⟩
 have hUl : U.length = l.length:=by rw [hU,zge hw]
 refine zk0 (d:=fun k : Nat=>[(4,I k)]) (g:=fun k=>U.take k ++ l.drop k) (fun k=>k ≤ l.length) (fun k=>l.length - k) 0 (Nat.zero_le _) ?_ ?_
 ·simp
 rintro k k1
 by_cases hlt : k < l.length
 ·have hat : gAt U k = if k + w < l.length then gAt l (k + w) else qr:=by rw [hU]; exact zpr hw hlt
  have hst:=z4h (k:=k) hUl (znd (l:=U) (by omega))
  have hl4 : (U.take k ++ l.drop k).length = l.length:=by simp; omega
  generalize U.take k ++ l.drop k = l4 at *
  by_cases hq : k + w < l.length
  ·rw [if_pos hq] at hat
   rw [hat] at hst
   repeat' (first
   |(apply zj rfl rfl rfl rfl (c:=co)
     case ha=>exact os_
     rintro _ _ ⟨u,rfl,rfl⟩; refine zu (List.Mem.head _) fun hu1 hu2 => ?_)
   |refine z5i ?_ | (refine zb ?_ ?_ <;> intro hb <;> try exact no_) | (refine sx_ ?_ <;> intro bb) | (refine su_ ?_ <;> intro u hu1 hu2) | fail)
   all_goals first | exact e1_ | skip
   refine ⟨k + 1,by omega,by omega,wx_, ?_⟩
   rw [← hst]; exact sl_
  ·rw [if_neg hq] at hat
   rw [hat] at hst
   repeat' (first
   |(apply zj rfl rfl rfl rfl (c:=co)
     case ha=>exact os_
     rintro _ _ ⟨u,rfl,rfl⟩; refine zu (List.Mem.head _) fun hu1 hu2 => ?_)
   |refine z5i ?_ | (refine zb ?_ ?_ <;> intro hb <;> try exact no_) | (refine sx_ ?_ <;> intro bb) | (refine su_ ?_ <;> intro u hu1 hu2) | fail)
   all_goals first | exact e1_ | skip
   refine ⟨k + 1,by omega,by omega,wx_, ?_⟩
   rw [← hst]; exact sl_
 ·obtain rfl : k = l.length:=by omega
  have hend : U.take l.length ++ l.drop l.length = upB w l:=by rw [List.take_of_length_le (by omega),List.drop_of_length_le (Nat.le_refl _),List.append_nil,hU]
  rw [hend]
  repeat' (first
  |(apply zj rfl rfl rfl rfl (c:=co)
    case ha=>exact os_
    rintro _ _ ⟨u,rfl,rfl⟩; refine zu (List.Mem.head _) fun hu1 hu2 => ?_)
  |refine z5i ?_ | (refine zb ?_ ?_ <;> intro hb <;> try exact no_) | (refine sx_ ?_ <;> intro bb) | (refine su_ ?_ <;> intro u hu1 hu2) | fail)
  all_goals first | exact e1_ | skip
  exact ⟨_,[gsO u (upB w l)],rl_,sl_,u,rfl,rfl⟩
theorem zl_ (w h : Int) (l : List zi) (x y : Int) (b s : Bool) (hw0 : 0 ≤ w) (hw : w.toNat ≤ l.length) (hl : l.length ≤ 100000) : AP Tryz.prog T0 151 [jb w h l x y b s] (jb w h (upB w.toNat l) x y b s):=by
 obtain ⟨w,rfl⟩:=Int.eq_ofNat_of_zero_le hw0
 exact (zs3 w h l x y b s (by simpa using hw) hl).frz1 ze8
theorem zoj (w : Nat) (h : Int) (l : List zi) (x y : Int) (b s : Bool) (p : Nat) (cs : List zp) (hw : 1 ≤ w) (hw2 : w ≤ 1000) (hl : l.length ≤ 100000) (hk : GOk w l) (hp : p + cs.length ≤ l.length) (h2 : 0 < (p + cs.length) % w → p + cs.length < l.length) :
  AF Tryz.prog T0 152 [jb w h l x y b s,I p,slA qg cs] [] (fun A M' => ∃ u,A = z0 [I w,I h,vA u,I x,I y,B b,B s] ∧ M' = [gsO u (wq w l p cs)]):=by
 have hp1 : 0 < p % w → 1 ≤ p:=fun k=>by
  rcases Nat.eq_zero_or_pos p with h | h
  ·subst h; simp at k
  ·exact h
 have co:=za8 (T0:=T0) w h l x y b s hl
 rw [← z5a hk hp h2]
 refine za Tryz.func152 rfl (by decide) Tryz.ntmps152 rfl ?_
 repeat' (first
 |(apply zj rfl rfl rfl rfl (c:=co)
   case ha=>exact os_
   rintro _ _ ⟨u,rfl,rfl⟩; refine zu (List.Mem.head _) fun hu1 hu2 => ?_)
 |refine z5i ?_ | (refine zb ?_ ?_ <;> intro hb <;> try exact no_) | (refine sx_ ?_ <;> intro bb) | (refine su_ ?_ <;> intro u hu1 hu2) | fail)
 refine zk0 (d:=fun k : Nat=>[(9,I k)]) (g:=fun k=>ovr l p ((cs.map fun c=>((c,true) : zi)).take k)) (fun k=>k ≤ cs.length) (fun k=>cs.length - k) 0 (Nat.zero_le _) ?_ ?_
 ·simp [ovr]
 rintro k k1
 have hl3 : (ovr l p ((cs.map fun c=>((c,true) : zi)).take k)).length = l.length:=by rw [qz (by simp; omega)]
 by_cases hlt : k < cs.length
 ·obtain ⟨⟨c1,c2⟩,hat⟩ : ∃ z,cs[k]? = some z:=⟨_,List.getElem?_eq_getElem hlt⟩
  have hst:=wc l p (cs.map fun c=>((c,true) : zi)) k ((c1,c2),true) (by simp [hat]) (by simp; omega)
  obtain ⟨l4,hl4⟩ : ∃ l4,l4 = ovr l p ((cs.map fun c=>((c,true) : zi)).take k):=⟨_,rfl⟩
  rw [← hl4] at hl3 hst ⊢
  repeat' (first
  |(apply zj rfl rfl rfl rfl (c:=co)
    case ha=>exact os_
    rintro _ _ ⟨u,rfl,rfl⟩; refine zu (List.Mem.head _) fun hu1 hu2 => ?_)
  |refine z5i ?_ | (refine zb ?_ ?_ <;> intro hb <;> try exact no_) | (refine sx_ ?_ <;> intro bb) | (refine su_ ?_ <;> intro u hu1 hu2) | fail)
  all_goals first | exact e1_ | skip
  refine ⟨k + 1,by omega,by omega,wx_, ?_⟩
  rw [← hst]; exact sl_
 ·obtain rfl : k = cs.length:=by omega
  rw [List.take_of_length_le (by simp)]
  obtain ⟨l5,hl5⟩ : ∃ l5 : List zi,l5 = ovr l p (cs.map fun c=>((c,true) : zi)):=⟨_,rfl⟩
  rw [← hl5]
  have hl6 : l5.length = l.length:=by rw [hl5]; exact qz (by simpa using hp)
  repeat' (first
  |(apply zj rfl rfl rfl rfl (c:=co)
    case ha=>exact os_
    rintro _ _ ⟨u,rfl,rfl⟩; refine zu (List.Mem.head _) fun hu1 hu2 => ?_)
  |refine z5i ?_ | (refine zb ?_ ?_ <;> intro hb <;> try exact no_) | (refine sx_ ?_ <;> intro bb) | (refine su_ ?_ <;> intro u hu1 hu2) | fail)
  all_goals first | exact e1_ | skip
  ·rename_i hb1
   have hz : zy6 w l p cs = (l5.set (p - 1) qr).set (p + cs.length) qr:=by
    unfold zy6; simp only
    rw [if_pos ⟨by omega,hb.1.2,hb.2⟩,if_pos ⟨by omega,hb1.1.2,hb1.2⟩,← hl5]
   rw [hz]
   exact ⟨_,[gsO u _],rl_,sl_,u,rfl,rfl⟩
  ·rename_i hb1
   have hz : zy6 w l p cs = l5.set (p - 1) qr:=by
    unfold zy6; simp only
    rw [if_neg (fun z=>by rcases hb with (q | q) | q; omega; rw [z.2.1] at q; cases q; exact q z.2.2),if_pos ⟨by omega,hb1.1.2,hb1.2⟩,← hl5]
   rw [hz]
   exact ⟨_,[gsO u _],rl_,sl_,u,rfl,rfl⟩
  ·rename_i hb1
   have hz : zy6 w l p cs = l5.set (p + cs.length) qr:=by
    unfold zy6; simp only
    rw [if_pos ⟨by omega,hb.1.2,hb.2⟩,if_neg (fun z=>by rcases hb1 with (q | q) | q; omega; rw [z.2.1] at q; cases q; exact q z.2.2),← hl5]
   rw [hz]
   exact ⟨_,[gsO u _],rl_,sl_,u,rfl,rfl⟩
  ·rename_i hb1
   have hz : zy6 w l p cs = l5:=by
    unfold zy6; simp only
    rw [if_neg (fun z=>by rcases hb with (q | q) | q; omega; rw [z.2.1] at q; cases q; exact q z.2.2),if_neg (fun z=>by rcases hb1 with (q | q) | q; omega; rw [z.2.1] at q; cases q; exact q z.2.2),← hl5]
   rw [hz]
   exact ⟨_,[gsO u _],rl_,sl_,u,rfl,rfl⟩
theorem zi0 (w h : Int) (l : List zi) (x y : Int) (b s : Bool) (p : Int) (cs : List zp) (hw : 1 ≤ w) (hw2 : w ≤ 1000) (hl : l.length ≤ 100000) (hk : GOk w.toNat l) (hp0 : 0 ≤ p) (hp : p + cs.length ≤ l.length) (h2 : 0 < (p.toNat + cs.length) % w.toNat → p.toNat + cs.length < l.length) :
  AP Tryz.prog T0 152 [jb w h l x y b s,I p,slA qg cs] (jb w h (wq w.toNat l p.toNat cs) x y b s):=by
 obtain ⟨w,rfl⟩:=Int.eq_ofNat_of_zero_le (show 0 ≤ w by omega)
 obtain ⟨p,rfl⟩:=Int.eq_ofNat_of_zero_le hp0
 exact (zoj w h l x y b s p cs (by omega) (by omega) hl (by simpa using hk) (by omega) h2).frz1 ze8
theorem zg7 (w h : Int) (l : List zi) (x y : Int) (b s : Bool) (c : Cmd) (hx : -1000 ≤ x ∧ x ≤ 1000) (hh : -1000 ≤ h ∧ h ≤ 1000) : AP Tryz.prog T0 150 [jb w h l x y b s,vi c] (zt [B (zq w x b c),B (zq w x b c && decide (y = h - 1))]):=by
 obtain ⟨k,a,d,r⟩:=c
 have hr : (zh r).length ≤ 2:=(vg r).2
 have c1:=yq (T0:=T0) r
 have c2 : True:=trivial
 have e : zq w x b (k,a,d,r) = (decide (k = 10) || (decide (k = 1) && (b || decide (w < x + (zh r).length)))):=rfl
 rw [e]
 clear e
 generalize (zh r).length = n at *
 refine za Tryz.func150 rfl (by decide) Tryz.ntmps150 rfl ?_
 repeat' (first
 |refine zbz ?_ | (refine zb ?_ ?_ <;> intro hb <;> try exact no_) | (refine sx_ ?_ <;> intro bb) | (refine su_ ?_ <;> intro u hu1 hu2) | fail)
 exact ⟨_,[],rl_,List.nil_sublist _,Sub.refl _,rfl⟩
theorem z1a (w h : Int) (l : List zi) (x y : Int) (b s : Bool) : AP Tryz.prog T0 148 [jb w h l x y b s] (blA (yg w h).1):=by
 have c1:=w6 (T0:=T0) w h
 have c2 : True:=trivial
 generalize yg w h = z at *
 refine za Tryz.func148 rfl (by decide) Tryz.ntmps148 rfl ?_
 repeat' (first
 |refine zbz ?_ | (refine zb ?_ ?_ <;> intro hb <;> try exact no_) | (refine sx_ ?_ <;> intro bb) | (refine su_ ?_ <;> intro u hu1 hu2) | fail)
 exact ⟨_,[],rl_,List.nil_sublist _,Sub.refl _,rfl⟩
theorem zyb {w h : Int} (hs : 2 ≤ w ∧ w ≤ 80 ∧ 1 ≤ h ∧ h ≤ 24) : okG w h (List.replicate (w.toNat * h.toNat) (32,0)) = true:=by
 obtain ⟨w,rfl⟩:=Int.eq_ofNat_of_zero_le (show 0 ≤ w by omega)
 obtain ⟨h,rfl⟩:=Int.eq_ofNat_of_zero_le (show 0 ≤ h by omega)
 have hat : ∀ i,i < w * h → cAt (List.replicate (w * h) (32,0)) i = (32,0):=fun i hi=>by simp [cAt,List.getElem?_replicate,hi]
 simp only [okG,OkG,decide_eq_true_eq,Int.toNat_natCast,List.length_replicate]
 refine ⟨hs,Int.natCast_mul w h,fun i hi => ?_⟩
 rw [hat i hi]
 exact ⟨kb,ql.2 (by rw [hat i hi]; exact ⟨fun z=>(by simp at z),fun z=>(by simp at z)⟩)⟩
theorem z1j (w h : Int) (l : List zi) (x y : Int) (b s : Bool) (c : Cmd) (hs : 2 ≤ w ∧ w ≤ 80 ∧ 1 ≤ h ∧ h ≤ 24) (hx : 0 ≤ x ∧ x < w) (hy : 0 ≤ y ∧ y < h) (hb : b = true → x = w - 1) (hc : z9 c = true) : ∃ L,AP Tryz.prog T0 149 [jb w h l x y b s,vi c] (xp w h L (yh w h x y b c).1 (yh w h x y b c).2.1 (yh w h x y b c).2.2):=by
 obtain ⟨G,hG⟩ : ∃ G,G = List.replicate (w.toNat * h.toNat) ((32,0) : zp):=⟨_,rfl⟩
 have hok : okT w h G x y b = true:=xe.2 ⟨by rw [hG]; exact zyb hs,⟨hx.1,hx.2,hy.1,hy.2⟩,hb⟩
 have c1 : AP Tryz.prog T0 181 [I w,I h] (zt [xp w h G 0 0 false,I 0]):=(zs8 w h).to (by rw [zb_,if_pos (by simp [qu]; omega),hG])
 have c2 : AP Tryz.prog T0 182 [xp w h G x y b,vi c] (zt [tmA (doK w h G x y b c),I 0]):=(zw1 w h G x y b c).to (by rw [zxx (t:=(w,h,G,x,y,b)) hok hc])
 refine ⟨(doK w h G x y b c).2.2.1, ?_⟩
 rw [← zxy w h G x y b c]
 have hsd:=zmk w h G x y b c
 clear hG hok
 generalize doK w h G x y b c = z at *
 obtain ⟨z1,z2,z3,z4,z5,z6⟩:=z
 obtain ⟨rfl,rfl⟩:=hsd
 refine za Tryz.func149 rfl (by decide) Tryz.ntmps149 rfl ?_
 repeat' (first
 |refine zbz ?_ | (refine zb ?_ ?_ <;> intro hb <;> try exact no_) | (refine sx_ ?_ <;> intro bb) | (refine su_ ?_ <;> intro u hu1 hu2) | fail)
 exact ⟨_,[],rl_,List.nil_sublist _,Sub.refl _,rfl⟩
end Go.Proofs.YtgfmjmfphmjdkaaGreatDoor
namespace Go.Proofs.YtgfmjmfphmjdkaaGreatDoor
set_option maxHeartbeats 4000000
open Go Go.RowKit
set_option maxRecDepth 100000
variable {T0 : Gh} [TabS T0]
theorem zzq {n : Int} : Sub (zt [z0 [I 0,I 0,vA (.slice none 0 0),I 0,I 0,B false,B false],I n]) (zt [blA noB,I n]):=ka (qb (vx (qb (Sub.refl _) (qb (Sub.refl _) (qb zfd (qb (Sub.refl _) (qb (Sub.refl _) (qb (Sub.refl _) (qb (Sub.refl _) vj)))))))) (qb (Sub.refl _) vj))
theorem z9m {w h : Int} {l : List zi} {x y : Int} {b s : Bool} (h1 : vr w h l x y b s = true) : (2 ≤ w ∧ w ≤ 80 ∧ 1 ≤ h ∧ h ≤ 24) ∧ (0 ≤ x ∧ x < w) ∧ (0 ≤ y ∧ y < h) ∧ (b = true → x = w - 1) ∧ (l.length : Int) = w * h ∧ l.length ≤ 1920 ∧ (0 ≤ y * w ∧ y * w ≤ 1920) ∧ GOk w.toNat l ∧ l.length = w.toNat * h.toNat:=by
 obtain ⟨w',h',rfl,rfl,w2,w3,w4,w5,hl,hk,p1,p2⟩:=qn.1 h1
 have hcur : (0 ≤ x ∧ x < (w' : Int)) ∧ (0 ≤ y ∧ y < (h' : Int)) ∧ (b = true → x = (w' : Int) - 1):=by
  cases s with
  |true=>obtain ⟨q1,q2,q3,q4,q5⟩:=p1 rfl; exact ⟨⟨q1,q2⟩,⟨q3,q4⟩,q5⟩
  |false=>obtain ⟨rfl,rfl,rfl⟩:=p2 rfl; exact ⟨by omega,by omega,fun z=>by cases z⟩
 have hm:=yw (w:=w') (h:=h') (y:=y) (by omega) (by omega) hcur.2.1
 have:=vb w3 w5
 exact ⟨by omega,hcur.1,hcur.2.1,hcur.2.2,by rw [hl]; exact Int.natCast_mul w' h',by omega,by omega,by simpa using hk,by simpa using hl⟩
attribute [local irreducible] z_ zg AW AL AO QY qd zx rsA Opd xi vA gvA zt z0 slA jc ipA rpA EqK LnK IxK LdK FaK FdK
theorem zs6 (w h : Int) (l : List zi) (x y : Int) (b s : Bool) (k a d r : Int) (h1 : vr w h l x y b s = true) (hc : z9 (k,a,d,r) = true) (hgo : s = true ∨ k = 2) : AP Tryz.prog T0 112 [jb w h l x y b s,z0 [I k,I a,I d,R r]] (zt [blA (znf w h l x y b (k,a,d,r)),I 0]):=by
 obtain ⟨hw,hx,hy,hb0,hl,hl2,hm,hg,hl3⟩:=z9m h1
 have c1 : AP Tryz.prog T0 89 [jb w h l x y b s] (B true):=(kd w h l x y b s).to (by rw [h1])
 have c2 : AP Tryz.prog T0 130 [z0 [I k,I a,I d,R r]] (B true):=(js (k,a,d,r)).to (by rw [hc])
 obtain ⟨T,c3⟩:=z1j (T0:=T0) w h l x y b s (k,a,d,r) hw hx hy hb0 hc
 replace c3 : AP Tryz.prog T0 149 [jb w h l x y b s,z0 [I k,I a,I d,R r]] _:=c3
 have c4:=zoi (T0:=T0) w h l x y b s (by omega)
 have c5 : AP Tryz.prog T0 147 [I k] (B (chg k)):=v7 k
 have hlen:=Int.toNat_of_nonneg (show 0 ≤ w by omega)
 have hlen2:=Int.toNat_of_nonneg (show 0 ≤ h by omega)
 have hlx:=Int.toNat_of_nonneg hx.1
 have hly:=Int.toNat_of_nonneg hy.1
 have hat:=za1 (w:=w) (x:=x) (y:=y) (by omega) (by omega) (by omega)
 have hri:=zgj (h:=h.toNat) (w:=w.toNat) (y:=y.toNat) (x:=x.toNat) (n:=w.toNat - x.toNat) (by omega) (by omega)
 have hsk : k ≠ 2 → s = true:=fun z=>by rcases hgo with q | q; exact q; exact absurd q z
 unfold znf
 obtain ⟨⟨X,Y,Z⟩,hcu⟩ : ∃ z,z = yh w h x y b (k,a,d,r):=⟨_,rfl⟩
 rw [← hcu] at c3 ⊢
 dsimp only at c3 ⊢
 have cd : ∀ v,zq w x b (k,a,d,r) = v → AP Tryz.prog T0 150 [jb w h l x y b s,z0 [I k,I a,I d,R r]] (zt [B v,B (v && decide (y = h - 1))]):=fun v hv=>by
  have:=zg7 (T0:=T0) w h l x y b s (k,a,d,r) (by omega) (by omega)
  rw [hv] at this; exact this
 rcases wx hc with ⟨r',e,hs⟩ | ⟨a',d',e,ha,ha2,hd1,hd2⟩ | ⟨k',a',e,hk,ha⟩ | ⟨k',e,hk⟩
 ·obtain ⟨rfl,rfl,rfl,rfl⟩ : k = 1 ∧ a = 0 ∧ d = 0 ∧ r = r':=by simpa using e
  have hs':=hsk (by decide)
  subst hs'
  have hn:=j6 hs
  rw [show chg 1 = true from rfl] at c5
  have gd : zq w x b (1,0,0,r) = true ↔ (b = true ∨ w < x + (zh r).length):=by simp [zq]
  have c9:=kf (T0:=T0) r
  have lay : ∀ (L1 : List zi) (P : Int) (PX PY : Nat),L1.length = l.length → GOk w.toNat L1 → P.toNat = PY * w.toNat + PX → 0 ≤ P → PY < h.toNat → PX + (zh r).length ≤ w.toNat → AP Tryz.prog T0 152 [jb w h L1 x y b true,I P,slA qg (zh r)] (jb w h (wq w.toNat L1 (PY * w.toNat + PX) (zh r)) x y b true):=fun L1 P PX PY a1 a2 a3 a4 a5 a6=>by
   have hri:=zgj (h:=h.toNat) (w:=w.toNat) (y:=PY) (x:=PX) (n:=(zh r).length) a5 a6
   have:=zi0 (T0:=T0) w h L1 x y b true P (zh r) (by omega) (by omega) (by omega) a2 a4 (by omega) (by rw [a3,a1]; exact zd4 (h:=h.toNat) hl3 hri)
   rwa [a3] at this
  show AP _ _ _ _ (zt [jb w h (zgf w.toNat h.toNat l x.toNat y.toNat b (zh r)) X Y Z true,I 0])
  unfold zgf
  by_cases hq : b = true ∨ w < x + (zh r).length
  ·have c6:=cd true (gd.2 hq)
   rw [if_pos (show b = true ∨ w.toNat < x.toNat + (zh r).length by rcases hq with q | q; exact .inl q; exact .inr (by omega))]
   by_cases e2 : y = h - 1
   ·rw [if_neg (by omega)]
    rw [show decide (y = h - 1) = true from decide_eq_true e2,Bool.and_true] at c6
    have hU : (upB w.toNat l).length = l.length:=by rw [zge]; rw [hl3]; exact Nat.le_mul_of_pos_right _ (by omega)
    have c7:=zl_ (T0:=T0) w h l x y b true (by omega) (by rw [hl3]; exact Nat.le_mul_of_pos_right _ (by omega)) (by omega)
    have c8:=lay (upB w.toNat l) (y * w) 0 y.toNat hU (zun (h:=h.toNat) (by omega) (by omega) hl3 hg) (by have:=za1 (w:=w) (x:=0) (y:=y) (by omega) (by omega) (by omega); simpa using this) (by omega) (by omega) (by omega)
    rw [Nat.add_zero] at c8
    generalize wq w.toNat (upB w.toNat l) (y.toNat * w.toNat) (zh r) = L at *
    generalize upB w.toNat l = L1 at *
    clear lay cd gd
    refine za Tryz.func112 rfl (by decide) Tryz.ntmps112 rfl ?_
    repeat' (first
    |refine ziv ?_ | (refine zb ?_ ?_ <;> intro hb <;> try exact no_) | (refine sx_ ?_ <;> intro bb) | (refine su_ ?_ <;> intro u hu1 hu2) | fail)
    all_goals first | exact e8_ | skip
   ·rw [if_pos (by omega)]
    have hm2:=yw (w:=w) (h:=h) (y:=y + 1) (by omega) (by omega) (by omega)
    rw [show decide (y = h - 1) = false from decide_eq_false e2,Bool.and_false] at c6
    have c7 : True:=trivial
    have c8:=lay l ((y + 1) * w) 0 (y.toNat + 1) rfl hg (by have:=za1 (w:=w) (x:=0) (y:=y + 1) (by omega) (by omega) (by omega); rw [show (y + 1).toNat = y.toNat + 1 by omega] at this; simpa using this) (by omega) (by omega) (by omega)
    rw [Nat.add_zero] at c8
    generalize wq w.toNat l ((y.toNat + 1) * w.toNat) (zh r) = L at *
    clear lay cd gd
    refine za Tryz.func112 rfl (by decide) Tryz.ntmps112 rfl ?_
    repeat' (first
    |refine ziv ?_ | (refine zb ?_ ?_ <;> intro hb <;> try exact no_) | (refine sx_ ?_ <;> intro bb) | (refine su_ ?_ <;> intro u hu1 hu2) | fail)
    all_goals first | exact e8_ | skip
  ·have c6:=cd false (by cases h : zq w x b (1,0,0,r) with | true=>exact absurd (gd.1 h) hq | false=>rfl)
   rw [Bool.false_and] at c6
   rw [if_neg (show ¬ (b = true ∨ w.toNat < x.toNat + (zh r).length) by rintro (q | q); exact hq (.inl q); exact hq (.inr (by omega)))]
   have c7 : True:=trivial
   have c8:=lay l (y * w + x) x.toNat y.toNat rfl hg hat (by omega) (by omega) (by omega)
   generalize wq w.toNat l (y.toNat * w.toNat + x.toNat) (zh r) = L at *
   clear lay cd gd
   refine za Tryz.func112 rfl (by decide) Tryz.ntmps112 rfl ?_
   repeat' (first
   |refine ziv ?_ | (refine zb ?_ ?_ <;> intro hb <;> try exact no_) | (refine sx_ ?_ <;> intro bb) | (refine su_ ?_ <;> intro u hu1 hu2) | fail)
   all_goals first | exact e8_ | skip
 ·obtain ⟨rfl,rfl,rfl,rfl⟩ : k = 2 ∧ a = a' ∧ d = d' ∧ r = 0:=by simpa using e
  have c6:=cd false (by simp [zq])
  have c7 : True:=trivial
  have c8 : True:=trivial
  have c9 : True:=trivial
  show AP _ _ _ _ (zt [jb w h l X Y Z true,I 0])
  rw [show chg 2 = false from rfl] at c5
  cases s with
  |true =>
   refine za Tryz.func112 rfl (by decide) Tryz.ntmps112 rfl ?_
   repeat' (first
   |refine ziv ?_ | (refine zb ?_ ?_ <;> intro hb <;> try exact no_) | (refine sx_ ?_ <;> intro bb) | (refine su_ ?_ <;> intro u hu1 hu2) | fail)
   all_goals first | exact e8_ | skip
  |false =>
   refine za Tryz.func112 rfl (by decide) Tryz.ntmps112 rfl ?_
   repeat' (first
   |refine ziv ?_ | (refine zb ?_ ?_ <;> intro hb <;> try exact no_) | (refine sx_ ?_ <;> intro bb) | (refine su_ ?_ <;> intro u hu1 hu2) | fail)
   all_goals first | exact e8_ | skip
 ·obtain ⟨rfl,rfl,rfl,rfl⟩ : k = k' ∧ a = a' ∧ d = 0 ∧ r = 0:=by simpa using e
  have hs:=hsk (by omega)
  subst hs
  have c6:=cd false (by simp [zq]; omega)
  have c7 : True:=trivial
  have c8 : True:=trivial
  have c9 : True:=trivial
  have eL : kp w.toNat h.toNat l x.toNat y.toNat b (k,a,0,0) = l:=by
   unfold kp
   rw [if_neg (show k ≠ 1 by omega),if_neg (show k ≠ 7 by omega),if_neg (show k ≠ 8 by omega),if_neg (show k ≠ 10 by omega)]
  rw [eL]
  show AP _ _ _ _ (zt [jb w h l X Y Z true,I 0])
  rw [show chg k = false by simp [chg]; omega] at c5
  rcases hk with rfl | rfl | rfl | rfl
  ·refine za Tryz.func112 rfl (by decide) Tryz.ntmps112 rfl ?_
   repeat' (first
   |refine ziv ?_ | (refine zb ?_ ?_ <;> intro hb <;> try exact no_) | (refine sx_ ?_ <;> intro bb) | (refine su_ ?_ <;> intro u hu1 hu2) | fail)
   all_goals first | exact e8_ | skip
  ·refine za Tryz.func112 rfl (by decide) Tryz.ntmps112 rfl ?_
   repeat' (first
   |refine ziv ?_ | (refine zb ?_ ?_ <;> intro hb <;> try exact no_) | (refine sx_ ?_ <;> intro bb) | (refine su_ ?_ <;> intro u hu1 hu2) | fail)
   all_goals first | exact e8_ | skip
  ·refine za Tryz.func112 rfl (by decide) Tryz.ntmps112 rfl ?_
   repeat' (first
   |refine ziv ?_ | (refine zb ?_ ?_ <;> intro hb <;> try exact no_) | (refine sx_ ?_ <;> intro bb) | (refine su_ ?_ <;> intro u hu1 hu2) | fail)
   all_goals first | exact e8_ | skip
  ·refine za Tryz.func112 rfl (by decide) Tryz.ntmps112 rfl ?_
   repeat' (first
   |refine ziv ?_ | (refine zb ?_ ?_ <;> intro hb <;> try exact no_) | (refine sx_ ?_ <;> intro bb) | (refine su_ ?_ <;> intro u hu1 hu2) | fail)
   all_goals first | exact e8_ | skip
 ·obtain ⟨rfl,rfl,rfl,rfl⟩ : k = k' ∧ a = 0 ∧ d = 0 ∧ r = 0:=by simpa using e
  have hs:=hsk (by omega)
  subst hs
  have nd : k ≠ 10 → zq w x b (k,0,0,0) = false:=fun z=>by simp [zq,z]; omega
  have lay : ∀ (P : Nat),P ≤ w.toNat * h.toNat - (y.toNat * w.toNat + x.toNat) → AP Tryz.prog T0 152 [jb w h l x y b true,I (y * w + x),slA qg (List.replicate P (32,0))] (jb w h (wq w.toNat l (y.toNat * w.toNat + x.toNat) (List.replicate P (32,0))) x y b true):=fun P hP=>by
   have:=zi0 (T0:=T0) w h l x y b true (y * w + x) (List.replicate P (32,0)) (by omega) (by omega) (by omega) hg (by omega) (by simp; omega) (by rw [hat]; exact zd4 (h:=h.toNat) hl3 (by simp; omega))
   rwa [hat] at this
  rcases hk with rfl | rfl | rfl | rfl | rfl | rfl
  ·have c6:=cd false (nd (by decide))
   have c7:=zmg (T0:=T0) (w - x) (by omega) (by omega)
   have c8:=lay (w - x).toNat (by omega)
   have c9 : True:=trivial
   rw [show chg 7 = true from rfl] at c5
   show AP _ _ _ _ (zt [jb w h (wq w.toNat l (y.toNat * w.toNat + x.toNat) (List.replicate (w.toNat - x.toNat) (32,0))) X Y Z true,I 0])
   rw [show w.toNat - x.toNat = (w - x).toNat by omega]
   generalize wq w.toNat l (y.toNat * w.toNat + x.toNat) (List.replicate (w - x).toNat (32,0)) = L at *
   clear lay cd hri hat
   refine za Tryz.func112 rfl (by decide) Tryz.ntmps112 rfl ?_
   repeat' (first
   |refine ziv ?_ | (refine zb ?_ ?_ <;> intro hb <;> try exact no_) | (refine sx_ ?_ <;> intro bb) | (refine su_ ?_ <;> intro u hu1 hu2) | fail)
   all_goals first | exact e8_ | skip
  ·have c6:=cd false (nd (by decide))
   have hwh : 0 ≤ w * h ∧ w * h ≤ 1920:=by omega
   have hge : y * w + x ≤ w * h:=by
    have:=hl3; have:=hat; omega
   have c7:=zmg (T0:=T0) (w * h - (y * w + x)) (by omega) (by omega)
   have c8:=lay (w * h - (y * w + x)).toNat (by omega)
   have c9 : True:=trivial
   rw [show chg 8 = true from rfl] at c5
   show AP _ _ _ _ (zt [jb w h (wq w.toNat l (y.toNat * w.toNat + x.toNat) (List.replicate (l.length - (y.toNat * w.toNat + x.toNat)) (32,0))) X Y Z true,I 0])
   rw [show l.length - (y.toNat * w.toNat + x.toNat) = (w * h - (y * w + x)).toNat by omega]
   generalize wq w.toNat l (y.toNat * w.toNat + x.toNat) (List.replicate (w * h - (y * w + x)).toNat (32,0)) = L at *
   clear lay cd hri hat
   refine za Tryz.func112 rfl (by decide) Tryz.ntmps112 rfl ?_
   repeat' (first
   |refine ziv ?_ | (refine zb ?_ ?_ <;> intro hb <;> try exact no_) | (refine sx_ ?_ <;> intro bb) | (refine su_ ?_ <;> intro u hu1 hu2) | fail)
   all_goals first | exact e8_ | skip
  ·have c6:=cd false (nd (by decide))
   have c7 : True:=trivial
   have c8 : True:=trivial
   have c9 : True:=trivial
   rw [show chg 9 = false from rfl] at c5
   show AP _ _ _ _ (zt [jb w h l X Y Z true,I 0])
   refine za Tryz.func112 rfl (by decide) Tryz.ntmps112 rfl ?_
   repeat' (first
   |refine ziv ?_ | (refine zb ?_ ?_ <;> intro hb <;> try exact no_) | (refine sx_ ?_ <;> intro bb) | (refine su_ ?_ <;> intro u hu1 hu2) | fail)
   all_goals first | exact e8_ | skip
  ·have c8 : True:=trivial
   have c9 : True:=trivial
   have c6:=cd true (by simp [zq])
   rw [show chg 10 = true from rfl] at c5
   show AP _ _ _ _ (zt [jb w h (if y.toNat + 1 < h.toNat then l else upB w.toNat l) X Y Z true,I 0])
   by_cases e2 : y = h - 1
   ·rw [if_neg (by omega)]
    rw [show decide (y = h - 1) = true from decide_eq_true e2,Bool.and_true] at c6
    have c7:=zl_ (T0:=T0) w h l x y b true (by omega) (by rw [hl3]; exact Nat.le_mul_of_pos_right _ (by omega)) (by omega)
    generalize upB w.toNat l = L1 at *
    refine za Tryz.func112 rfl (by decide) Tryz.ntmps112 rfl ?_
    repeat' (first
    |refine ziv ?_ | (refine zb ?_ ?_ <;> intro hb <;> try exact no_) | (refine sx_ ?_ <;> intro bb) | (refine su_ ?_ <;> intro u hu1 hu2) | fail)
    all_goals first | exact e8_ | skip
   ·rw [if_pos (by omega)]
    rw [show decide (y = h - 1) = false from decide_eq_false e2,Bool.and_false] at c6
    have c7 : True:=trivial
    refine za Tryz.func112 rfl (by decide) Tryz.ntmps112 rfl ?_
    repeat' (first
    |refine ziv ?_ | (refine zb ?_ ?_ <;> intro hb <;> try exact no_) | (refine sx_ ?_ <;> intro bb) | (refine su_ ?_ <;> intro u hu1 hu2) | fail)
    all_goals first | exact e8_ | skip
  ·have c6:=cd false (nd (by decide))
   have c7 : True:=trivial
   have c8 : True:=trivial
   have c9 : True:=trivial
   rw [show chg 11 = false from rfl] at c5
   show AP _ _ _ _ (zt [jb w h l X Y Z true,I 0])
   refine za Tryz.func112 rfl (by decide) Tryz.ntmps112 rfl ?_
   repeat' (first
   |refine ziv ?_ | (refine zb ?_ ?_ <;> intro hb <;> try exact no_) | (refine sx_ ?_ <;> intro bb) | (refine su_ ?_ <;> intro u hu1 hu2) | fail)
   all_goals first | exact e8_ | skip
  ·have c6:=cd false (nd (by decide))
   have c7 : True:=trivial
   have c8 : True:=trivial
   have c9 : True:=trivial
   rw [show chg 12 = false from rfl] at c5
   show AP _ _ _ _ (zt [jb w h l X Y Z true,I 0])
   refine za Tryz.func112 rfl (by decide) Tryz.ntmps112 rfl ?_
   repeat' (first
   |refine ziv ?_ | (refine zb ?_ ?_ <;> intro hb <;> try exact no_) | (refine sx_ ?_ <;> intro bb) | (refine su_ ?_ <;> intro u hu1 hu2) | fail)
   all_goals first | exact e8_ | skip
theorem zmb (w h : Int) (l : List zi) (x y : Int) (b s : Bool) (c : Cmd) : AP Tryz.prog T0 112 [jb w h l x y b s,vi c] (zt [blA (doB (w,h,l,x,y,b,s) c).1,I (doB (w,h,l,x,y,b,s) c).2]):=by
 have c6 : True:=trivial
 have c7 : True:=trivial
 have c8 : True:=trivial
 have c9 : True:=trivial
 by_cases hh : vr w h l x y b s = true ∧ z9 c = true
 ·obtain ⟨hok,hc⟩:=hh
  have c1 : AP Tryz.prog T0 89 [jb w h l x y b s] (B true):=(kd w h l x y b s).to (by rw [hok])
  have c2 : AP Tryz.prog T0 130 [vi c] (B true):=(js c).to (by rw [hc])
  by_cases q1 : s = false ∧ chg c.1 = true
  ·have e : doB (w,h,l,x,y,b,s) c = yg w h:=by unfold doB; rw [if_pos ⟨hok,hc⟩,if_pos q1]
   have hsd : qu w h = true:=by
    obtain ⟨w,h,rfl,rfl,w2,w3,w4,w5,_⟩:=qn.1 hok
    simp [qu]; omega
   rw [e]
   obtain ⟨rfl,q1⟩:=q1
   have c3:=z1a (T0:=T0) w h l x y b false
   have c4 : True:=trivial
   have c5 : AP Tryz.prog T0 147 [I c.1] (B true):=(v7 c.1).to (by rw [q1])
   have e2 : (yg w h).2 = 0:=by rw [yg,if_pos hsd]
   rw [e2]
   generalize (yg w h).1 = z at *
   obtain ⟨z1,z2,z3,z4,z5,z6,z7⟩:=z
   obtain ⟨k,a,d,r⟩:=c
   refine za Tryz.func112 rfl (by decide) Tryz.ntmps112 rfl ?_
   repeat' (first
   |refine ziv ?_ | (refine zb ?_ ?_ <;> intro hb <;> try exact no_) | (refine sx_ ?_ <;> intro bb) | (refine su_ ?_ <;> intro u hu1 hu2) | fail)
   all_goals first | exact e8_ | skip
  ·have c3 : True:=trivial
   have c4 : True:=trivial
   by_cases q2 : s = false ∧ c.1 ≠ 2
   ·have e : doB (w,h,l,x,y,b,s) c = ((w,h,l,x,y,b,s),0):=by unfold doB; rw [if_pos ⟨hok,hc⟩,if_neg q1,if_pos (.inl q2)]
    rw [e]
    obtain ⟨rfl,q2⟩:=q2
    have c5 : AP Tryz.prog T0 147 [I c.1] (B false):=(v7 c.1).to (by rw [show chg c.1 = false by simpa using q1])
    obtain ⟨k,a,d,r⟩:=c
    refine za Tryz.func112 rfl (by decide) Tryz.ntmps112 rfl ?_
    repeat' (first
    |refine ziv ?_ | (refine zb ?_ ?_ <;> intro hb <;> try exact no_) | (refine sx_ ?_ <;> intro bb) | (refine su_ ?_ <;> intro u hu1 hu2) | fail)
    all_goals first | exact e8_ | skip
   ·have key:=zs6 (T0:=T0) w h l x y b s c.1 c.2.1 c.2.2.1 c.2.2.2 hok hc (by
     cases s with
     |true=>exact .inl rfl
     |false=>exact .inr (Classical.byContradiction fun z=>q2 ⟨rfl,z⟩))
    have e : doB (w,h,l,x,y,b,s) c = (znf w h l x y b c,0):=by
     unfold doB; rw [if_pos ⟨hok,hc⟩,if_neg q1]
     by_cases q3 : (s = false ∧ c.1 ≠ 2) ∨ c.1 = 12
     ·rw [if_pos q3]
      have q4 : c.1 = 12:=by rcases q3 with q | q; exact absurd q q2; exact q
      have hs : s = true:=by
       cases s with
       |true=>rfl
       |false=>exact absurd ⟨rfl,by rw [q4]; decide⟩ q2
      subst hs
      rcases wx hc with ⟨r,rfl,hr⟩ | ⟨a,d,rfl,ha⟩ | ⟨k,a,rfl,hk,ha⟩ | ⟨k,rfl,hk⟩
      ·simp at q4
      ·simp at q4
      ·simp only at q4; omega
      ·simp only at q4; subst q4; rfl
     ·rw [if_neg q3]
    rw [e]; exact key
 ·rw [z3g hh]
  have c3 : True:=trivial
  have c4 : True:=trivial
  have c5 : True:=trivial
  show AP _ _ _ _ (zt [blA noB,I 1])
  cases e1 : vr w h l x y b s with
  |false =>
   have c1 : AP Tryz.prog T0 89 [jb w h l x y b s] (B false):=(kd w h l x y b s).to (by rw [e1])
   have c2:=js (T0:=T0) c
   refine za Tryz.func112 rfl (by decide) Tryz.ntmps112 rfl ?_
   repeat' (first
   |refine ziv ?_ | (refine zb ?_ ?_ <;> intro hb <;> try exact no_) | (refine sx_ ?_ <;> intro bb) | (refine su_ ?_ <;> intro u hu1 hu2) | fail)
   all_goals first | exact e8_ | skip
  |true =>
   have e2 : z9 c = false:=by
    cases e : z9 c with
    |false=>rfl
    |true=>exact absurd ⟨e1,e⟩ hh
   have c1 : AP Tryz.prog T0 89 [jb w h l x y b s] (B true):=(kd w h l x y b s).to (by rw [e1])
   have c2 : AP Tryz.prog T0 130 [vi c] (B false):=(js c).to (by rw [e2])
   refine za Tryz.func112 rfl (by decide) Tryz.ntmps112 rfl ?_
   repeat' (first
   |refine ziv ?_ | (refine zb ?_ ?_ <;> intro hb <;> try exact no_) | (refine sx_ ?_ <;> intro bb) | (refine su_ ?_ <;> intro u hu1 hu2) | fail)
   all_goals first | exact e8_ | skip
end Go.Proofs.YtgfmjmfphmjdkaaGreatDoor
