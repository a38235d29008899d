/- The library's Repeat of one thing. No condition. -/
import Derived.Test.YtgfmjmfphmjdkaaGreatDoorR3AJ
import Derived.Shelf.Bits.Mul64
import Derived.Test.YtgfmjmfphmjdkaaGreatDoorR3B1
set_option linter.unusedSimpArgs false
set_option linter.unusedVariables false
set_option linter.unusedSectionVars false
namespace Go.Proofs.YtgfmjmfphmjdkaaGreatDoor
set_option maxHeartbeats 4000000
open Go Go.RowKit
set_option maxRecDepth 100000
def qcu : Go.Shelf.Ren:=⟨fun k=>if k = 212 then 160 else if k = 263 then 186 else if k = 264 then 187 else 0,
 fun k=>if k = 46 then 178 else if k = 51 then 196 else if k = 53 then 199 else if k = 146 then 197 else if k = 148 then 200 else 0,fun _=>0⟩
theorem zxs {P : Program} {t : TypeId} {v : Value} (h : (P.info? t).map (·.zero) = some (some v)) (w : World) : (zeroValue t).run P w = .ok v w:=by
 obtain ⟨i,h1,h2⟩:=Option.map_eq_some_iff.1 h
 simp [zeroValue,typeInfo,h1,h2]
instance qao : UnC 178 (.int .u64):=⟨Tryz.underlying178⟩
theorem z3v : Go.Proofs.Lays.n212 Tryz.prog qcu:=by
 constructor
 all_goals first
 |kernel_rfl
 |exact yq (by kernel_rfl)
 |exact kf (by kernel_rfl)
 |exact xg (by kernel_rfl)
 |exact zxs (by kernel_rfl)
section
variable {T0 : Gh}
abbrev U64 (n : Nat) : AV:=vA (.int .u64 (n : Int))
theorem zso {n : Int} (h : 0 ≤ n ∧ n < 18446744073709551616) : Fit .u64 n:=by
 show IntKind.u64.wrap n = n
 rw [IntKind.wrap_u64]; omega
theorem qaa (x y : Nat) (hx : x < 18446744073709551616) (hy : y < 18446744073709551616) : AP Tryz.prog T0 160 [U64 x,U64 y] (zy [U64 (x * y / 18446744073709551616),U64 (x * y % 18446744073709551616)]):=by
 refine ⟨⟨Tryz.f160,Tryz.func160,by decide,rfl⟩,fun w0 G F w vs hs hr => ?_⟩
 obtain ⟨v1,v2,rfl⟩ : ∃ v1 v2,vs = [v1,v2]:=by
  have:=hr.len
  match vs,this with
  |[v1,v2],_=>exact ⟨v1,v2,rfl⟩
 have h1:=hr.1.eq
 have h2:=hr.2.1.eq
 subst h1 h2
 refine (Any.bits_Mul z3v x y hx hy w).mono ?_
 rintro e w' ⟨rfl,rfl⟩
 exact .inl ⟨_,zy [U64 _,U64 _],[],G,rfl,⟨Sub.refl _,rfl⟩,.of ⟨[_,_],rfl,Rep.va _ _,Rep.va _ _,trivial⟩,Gh.le.refl _,hs⟩
end
variable {T0 : Gh}
attribute [local irreducible] zz zg AW AL AO QY qh z_ rsA Opd xh vA gvA zy qb slA jl ipA rpA EqK LnK IxK LdK FaK FdK
theorem zox {α : Type} (c d : α) (n k N : Nat) (h : n + k ≤ N) : ovr (List.replicate n c ++ List.replicate (N - n) d) n (List.replicate k c) = List.replicate (n + k) c ++ List.replicate (N - (n + k)) d:=by
 unfold ovr
 rw [List.take_left' (by simp),List.length_replicate,List.replicate_append_replicate,List.drop_append,List.length_replicate,List.drop_of_length_le (by simp),List.nil_append,List.drop_replicate]
 congr 2; omega
theorem zz_ (c : zp) (N : Nat) (hN : N ≤ 100000) : AF Tryz.prog T0 122 [slA qs [c],I N] [] (fun A M' => ∃ u,A = vA u ∧ M' = [z_ qs 87 u (List.replicate N c)]):=by
 have cm:=(qaa (T0:=T0) 1 N (by omega) (by omega))
 rw [Nat.one_mul,Nat.div_eq_of_lt (by omega),Nat.mod_eq_of_lt (by omega)] at cm
 refine za Tryz.func122 rfl (by decide) Tryz.ntmps122 rfl ?_
 repeat' (first
 |refine zss ?_ | refine sa_ ?_ | refine qd ?_ (c:=by first | exact cm | fail)
  |refine jd ?_ (hy:=by first | (apply jr (a:=((1 : Nat) : Int)) rfl un_ un_; exact oo_; exact zso (by decide)) | (apply jr rfl un_ un_; exact oo_; exact zso (by omega)) | (apply jr rfl un_ un_; exact oo_; exact zb5)
                                |(apply qg rfl un_ el_; exact oo_; exact kx; exact lo_; exact hi_; exact lt_; exact le_; done) | fail)
 |refine z_5 ?_
  |refine qj ?_ (hy:=by intro hk hk2; first | (apply jr (a:=((1 : Nat) : Int)) rfl un_ un_; exact oo_; exact zso (by decide)) | (apply jr rfl un_ un_; exact oo_; exact zso (by omega)) | (apply jr rfl un_ un_; exact oo_; exact zb5)
                                              |(apply qg rfl un_ el_; exact oo_; exact kx; exact lo_; exact hi_; exact lt_; exact le_; done) | fail)
 |refine sw_ ?_ | (refine zd ?_ ?_ <;> intro hb <;> try exact no_) | (refine sx_ ?_ <;> intro bb) | (refine su_ ?_ <;> intro u hu1 hu2) | fail)
 all_goals first | (exfalso; omega) | (exfalso; simp at hb; omega) | skip
 have e : (List.take (List.replicate N ((0,0) : zp)).length [c]).length = min 1 N:=by simp; omega
 have e2 : ovr (List.replicate N ((0,0) : zp)) 0 (List.take (List.replicate N ((0,0) : zp)).length [c]) = List.replicate (min 1 N) c ++ List.replicate (N - min 1 N) (0,0):=by
  have h:=zox c ((0,0) : zp) 0 (min 1 N) N (by omega)
  simp only [List.replicate_zero,List.nil_append,Nat.sub_zero,Nat.zero_add] at h
  rw [← h]
  rcases Nat.eq_zero_or_pos N with z | z
  ·subst z; rfl
  ·rw [List.length_replicate,List.take_of_length_le (by simp; omega),show min 1 N = 1 by omega]; rfl
 rw [e]
 rw [e2]
 refine ze6 (fun n : Nat=>[(7,vA u),(8,I n)]) (fun n=>[z_ qs 87 u (List.replicate n c ++ List.replicate (N - n) ((0,0) : zp))]) (fun n=>n ≤ N ∧ (N ≠ 0 → 1 ≤ n)) (fun n=>N - n) (min 1 N) ⟨by omega,by omega⟩ wk_ (List.Sublist.refl _) ?_
 rintro n ⟨n1,n2⟩
 obtain ⟨l,hl⟩ : ∃ l,l = List.replicate n c ++ List.replicate (N - n) ((0,0) : zp):=⟨_,rfl⟩
 have hlen : l.length = N:=by rw [hl]; simp; omega
 rw [← hl]
 by_cases hlt : n < N
 ·have h1:=n2 (by omega)
  have e3:=zox c ((0,0) : zp) n (min n (N - n)) N (by omega)
  rw [← hl] at e3
  have e4 : List.take (l.length - n) (List.take (n - 0) (List.drop 0 l)) = List.replicate (min n (N - n)) c:=by
   rw [List.drop_zero,Nat.sub_zero,hlen,hl,List.take_left' (by simp),List.take_replicate,Nat.min_comm]
  have e5 : (List.take (l.length - n) (List.take (n - 0) (List.drop 0 l))).length = min n (N - n):=by rw [e4]; simp
  repeat' (first
  |refine zss ?_ | (apply zr8 0 7; (case hD=>decide +kernel); (case hH=>decide +kernel); (case hB=>decide +kernel); (case hg=>decide +kernel); (case hm=>kernel_rfl); (case hs=>rfl); (case hod=>rfl); (case hsd=>rfl); (case hb=>rfl)) | (apply qac; (case h2=>exact zl5)) | refine z14 ?_ | (apply zw (by rfl) (by kernel_rfl) (by kernel_rfl)) | refine sa_ ?_ | refine qd ?_ (c:=by first | exact cm | fail)
   |refine jd ?_ (hy:=by first | (apply jr (a:=((1 : Nat) : Int)) rfl un_ un_; exact oo_; exact zso (by decide)) | (apply jr rfl un_ un_; exact oo_; exact zso (by omega)) | (apply jr rfl un_ un_; exact oo_; exact zb5)
                                 |(apply qg rfl un_ el_; exact oo_; exact kx; exact lo_; exact hi_; exact lt_; exact le_; done) | fail)
  |refine z_5 ?_
   |refine qj ?_ (hy:=by intro hk hk2; first | (apply jr (a:=((1 : Nat) : Int)) rfl un_ un_; exact oo_; exact zso (by decide)) | (apply jr rfl un_ un_; exact oo_; exact zso (by omega)) | (apply jr rfl un_ un_; exact oo_; exact zb5)
                                               |(apply qg rfl un_ el_; exact oo_; exact kx; exact lo_; exact hi_; exact lt_; exact le_; done) | fail)
  |refine sw_ ?_ | (refine zd ?_ ?_ <;> intro hb <;> try exact no_) | (refine sx_ ?_ <;> intro bb) | (refine su_ ?_ <;> intro u hu1 hu2) | fail)
  all_goals first | (exfalso; simp at hb; omega) | skip
  all_goals
   rw [e5,e4,e3]
   exact ⟨n + min n (N - n),⟨by omega,by omega⟩,by omega,wk_,List.Sublist.refl _⟩
 ·repeat' (first
  |refine zss ?_ | refine sa_ ?_ | refine qd ?_ (c:=by first | exact cm | fail)
   |refine jd ?_ (hy:=by first | (apply jr (a:=((1 : Nat) : Int)) rfl un_ un_; exact oo_; exact zso (by decide)) | (apply jr rfl un_ un_; exact oo_; exact zso (by omega)) | (apply jr rfl un_ un_; exact oo_; exact zb5)
                                 |(apply qg rfl un_ el_; exact oo_; exact kx; exact lo_; exact hi_; exact lt_; exact le_; done) | fail)
  |refine z_5 ?_
   |refine qj ?_ (hy:=by intro hk hk2; first | (apply jr (a:=((1 : Nat) : Int)) rfl un_ un_; exact oo_; exact zso (by decide)) | (apply jr rfl un_ un_; exact oo_; exact zso (by omega)) | (apply jr rfl un_ un_; exact oo_; exact zb5)
                                               |(apply qg rfl un_ el_; exact oo_; exact kx; exact lo_; exact hi_; exact lt_; exact le_; done) | fail)
  |refine sw_ ?_ | (refine zd ?_ ?_ <;> intro hb <;> try exact no_) | (refine sx_ ?_ <;> intro bb) | (refine su_ ?_ <;> intro u hu1 hu2) | fail)
  all_goals first | (exfalso; simp at hb; omega) | skip
  refine ⟨_,_,rl_,List.Sublist.refl _,u,rfl, ?_⟩
  rw [hl,show n = N by omega,Nat.sub_self,List.replicate_zero,List.append_nil]
end Go.Proofs.YtgfmjmfphmjdkaaGreatDoor
namespace Go.Proofs.YtgfmjmfphmjdkaaGreatDoor
set_option maxHeartbeats 4000000
open Go Go.RowKit
set_option maxRecDepth 100000
theorem zoo : Sub (vA (.slice none 0 0)) (slA guT []):=fun _ _ h=>by
 rw [h.eq]; exact .of ⟨none,0,0,rfl,rfl,Nat.le_refl _,Nat.zero_le _,fun _=>rfl,fun h=>absurd rfl h⟩
variable {T0 : Gh} [TabS T0]
attribute [local irreducible] zz zg AW AL AO QY qh z_ rsA Opd xh vA gvA zy qb slA jl ipA rpA EqK LnK IxK LdK FaK FdK
theorem zd3 (w h : Int) (l : List zj) (x y : Int) (b s : Bool) (hl : l.length ≤ 100000) : AF Tryz.prog T0 67 [zad w h l x y b s] [] (fun A M' => ∃ u,A = qb [I w,I h,vA u,I x,I y,B b,B s] ∧ M' = [z_ guT 96 u l]):=by
 refine za Tryz.func67 rfl (by decide) Tryz.ntmps67 rfl ?_
 repeat' (first
 |refine g2_ ?_ | (refine zd ?_ ?_ <;> intro hb <;> try exact no_) | (refine sx_ ?_ <;> intro bb) | (refine su_ ?_ <;> intro u hu1 hu2) | fail)
 refine ⟨_,_,rs_,(List.Sublist.cons_cons _ (List.nil_sublist _)),u,rfl, ?_⟩
 rw [List.length_replicate,List.take_length,show ovr (List.replicate l.length zcx) 0 l = l by simp [ovr]]
theorem uf (k : Int) : AP Tryz.prog T0 66 [I k] (B (chg k)):=by
 refine za Tryz.func66 rfl (by decide) Tryz.ntmps66 rfl ?_
 repeat' (first
 |refine g2_ ?_ | (refine zd ?_ ?_ <;> intro hb <;> try exact no_) | (refine sx_ ?_ <;> intro bb) | (refine su_ ?_ <;> intro u hu1 hu2) | fail)
 refine ⟨_,[],rl_,List.nil_sublist _,Sub.eq (congrArg B ?_),rfl⟩
 simp [chg]
theorem z3_ (w h : Int) (l : List zj) (x y : Int) (b s : Bool) (c : Cmd) (hx : -1000 ≤ x ∧ x ≤ 1000) : AP Tryz.prog T0 119 [zad w h l x y b s,yw c] (B (decide (c.1 = 1) && (b || decide (w < x + (zh c.2.2.2).length)))):=by
 obtain ⟨k,a,d,r⟩:=c
 have hr : (zh r).length ≤ 2:=(wq r).2
 have cw:=zb8 (T0:=T0) r
 generalize (zh r).length = n at *
 refine za Tryz.func119 rfl (by decide) Tryz.ntmps119 rfl ?_
 repeat' (first
 |refine qa_ ?_ | (refine zd ?_ ?_ <;> intro hb <;> try exact no_) | (refine sx_ ?_ <;> intro bb) | (refine su_ ?_ <;> intro u hu1 hu2) | fail)
 refine ⟨_,[],rl_,List.nil_sublist _,Sub.eq (congrArg B ?_),rfl⟩
 first | rfl | (cases b <;> simp) | skip
theorem z0f (w h : Nat) (h1 : 2 ≤ w) (h2 : w ≤ 80) (h3 : 1 ≤ h) (h4 : h ≤ 24) : AF Tryz.prog T0 60 [I w,I h] [] (fun A M' => ∃ u,A = zy [qb [I w,I h,vA u,I 0,I 0,B false,B false],I 0] ∧ M' = [z_ guT 96 u (List.replicate (w * h) zcx)]):=by
 have hb:=vl h2 h4
 have hnn : (0 : Int) ≤ ((w * h : Nat) : Int):=Int.natCast_nonneg _
 have c1 : AP Tryz.prog T0 114 [I w,I h] (zy [xx w h (List.replicate (w * h) (32,0)),I 0]):=(znw w h).to (by rw [ze0,if_pos (by simp [xl]; omega)]; rfl)
 generalize List.replicate (w * h) ((32,0) : zp) = g0 at *
 refine za Tryz.func60 rfl (by decide) Tryz.ntmps60 rfl ?_
 repeat' (first
 |refine g5_ ?_ | (refine zd ?_ ?_ <;> intro hb <;> try exact no_) | (refine sx_ ?_ <;> intro bb) | (refine su_ ?_ <;> intro u hu1 hu2) | fail)
 all_goals first | exact e1_ | skip
 exact ⟨_,_,rl_,sl_,u,rfl,rfl⟩
theorem zj9 (w h : Int) : AP Tryz.prog T0 60 [I w,I h] (zy [blA (ye w h).1,I (ye w h).2]):=by
 by_cases hs : xl w h = true
 ·obtain ⟨w,h,rfl,rfl,h1,h2,h3,h4⟩:=wt hs
  have:=(z0f (T0:=T0) w h h1 h2 h3 h4).frz1 zrc
  rw [ye,if_pos hs]
  simpa only [Int.toNat_natCast] using this
 ·have c1 : AP Tryz.prog T0 114 [I w,I h] (zy [xx 0 0 [],I 4]):=(znw w h).to (by simp only [ze0,hs,zbr]; rfl)
  rw [ye,if_neg hs]
  refine za Tryz.func60 rfl (by decide) Tryz.ntmps60 rfl ?_
  repeat' (first
  |refine g5_ ?_ | (refine zd ?_ ?_ <;> intro hb <;> try exact no_) | (refine sx_ ?_ <;> intro bb) | (refine su_ ?_ <;> intro u hu1 hu2) | fail)
  all_goals first | (exfalso; omega) | exact ⟨_,[],rl_,List.nil_sublist _,Sub.refl _,rfl⟩ | exact ⟨_,[],rl_,List.nil_sublist _,wa (qu (un (qu (Sub.refl _) (qu (Sub.refl _) (qu zoo (qu (Sub.refl _) (qu (Sub.refl _) (qu (Sub.refl _) (qu (Sub.refl _) y4)))))))) (qu (Sub.refl _) y4)),rfl⟩ | skip
end Go.Proofs.YtgfmjmfphmjdkaaGreatDoor
