/- Several texts in one: see the comment ahead of each. No condition. -/
import Derived.Test.YtgfmjmfphmjdkaaGreatDoorR3ZB
set_option linter.unusedSimpArgs false
set_option linter.unusedVariables false
set_option linter.unusedSectionVars false
namespace Go.Proofs.YtgfmjmfphmjdkaaGreatDoor
set_option maxHeartbeats 4000000
section
open Go Go.RowKit
variable {T0 : Gh}
attribute [local irreducible] zz zg AW AL AO QY qh z_ rsA Opd xh vA gvA zy qb slA jl ipA rpA EqK LnK IxK LdK FaK FdK
set_option maxRecDepth 100000
theorem AP.to {f : FuncId} {As : List AV} {A A' : AV} (h : AP Tryz.prog T0 f As A) (e : A = A') : AP Tryz.prog T0 f As A':=e ▸ h
def isG (r : Int) : Bool:=(decide (0 ≤ r) && decide (r < 55296)) || (decide (57343 < r) && decide (r ≤ 1114111))
def ja (r : Int) : Bool:=isG r && decide (32 ≤ r) && (decide (r < 127) || decide (159 < r))
def isW (r : Int) : Bool:=kz.any fun p=>decide (p.1 ≤ r) && decide (r ≤ p.2)
def ctl (r : Int) : Bool:=(decide (0 ≤ r) && decide (r < 32)) || decide (r = 127)
theorem zg9 (r : Int) : AP Tryz.prog T0 185 [R r] (B (isG r)):=by
 refine za Tryz.func185 rfl (by decide) Tryz.ntmps185 rfl ?_
 repeat' (first
 |refine g2_ ?_ | refine w_frz ?_ | (refine zd ?_ ?_ <;> intro hb <;> try exact no_) | (refine sx_ ?_ <;> intro bb) | (refine su_ ?_ <;> intro u hu1 hu2) | fail)
 all_goals refine ⟨_,[],rs_,List.nil_sublist _,Sub.eq (congrArg B ?_),rfl⟩
 all_goals (rw [Bool.eq_iff_iff]; simp [isG]; omega)
theorem zc3 (r : Int) : AP Tryz.prog T0 158 [R r] (B (isG r)):=by
 refine za Tryz.func158 rfl (by decide) Tryz.ntmps158 rfl ?_
 repeat' (first
 |refine sa_ ?_ | refine qd ?_ (c:=by first | exact zg9 _ | fail) | refine j0 ?_ | refine zr ?_ (c:=by intro hk hk2; first | exact zg9 _ | fail) | refine sw_ ?_ | refine w_frz ?_ | (refine zd ?_ ?_ <;> intro hb <;> try exact no_) | (refine sx_ ?_ <;> intro bb) | (refine su_ ?_ <;> intro u hu1 hu2) | fail)
 exact ⟨_,[],rs_,List.nil_sublist _,Sub.refl _,rfl⟩
theorem we (r : Int) : AP Tryz.prog T0 118 [R r] (B (ja r)):=by
 refine za Tryz.func118 rfl (by decide) Tryz.ntmps118 rfl ?_
 repeat' (first
 |refine sa_ ?_ | refine qd ?_ (c:=by first | exact zc3 _ | exact f_ref01Is _ | fail) | refine j0 ?_ | refine zr ?_ (c:=by intro hk hk2; first | exact zc3 _ | exact f_ref01Is _ | fail) | refine sw_ ?_ | refine w_frz ?_ | (refine zd ?_ ?_ <;> intro hb <;> try exact no_) | (refine sx_ ?_ <;> intro bb) | (refine su_ ?_ <;> intro u hu1 hu2) | fail)
 exact ⟨_,[],rs_,List.nil_sublist _,Sub.refl _,rfl⟩
end
section
open Go Go.RowKit
variable {T0 : Gh} [TabS T0]
attribute [local irreducible] zz zg AW AL AO QY qh z_ rsA Opd xh vA gvA zy qb slA jl ipA rpA EqK LnK IxK LdK FaK FdK
set_option maxRecDepth 100000
theorem zec (i j : Nat) (p q : Int × Int) (hi : kz[i]? = some p) (hj : kz[j]? = some q) (h : i ≤ j) : p.1 ≤ q.1 ∧ p.2 ≤ q.2:=by
 obtain ⟨h1,rfl⟩:=List.getElem?_eq_some_iff.1 hi
 obtain ⟨h2,rfl⟩:=List.getElem?_eq_some_iff.1 hj
 have key : ∀ i j : Fin 11,i ≤ j → kz[i].1 ≤ kz[j].1 ∧ kz[i].2 ≤ kz[j].2:=by decide
 exact key ⟨i,h1⟩ ⟨j,h2⟩ h
theorem zit (r : Int) : AP Tryz.prog T0 159 [R r] (B (isW r)):=by
 refine za Tryz.func159 rfl (by decide) Tryz.ntmps159 rfl ?_
 repeat' (first
 |refine sa_ ?_
  |refine jd ?_ (hy:=by first | exact zl rfl ul zds za_ ol_ (by omega)
                                |exact zl (m:=0) rfl vk y0 oo_ ol_ (by decide)
                                |exact zl (m:=1) rfl vk y0 oo_ ol_ (by decide)
                                |exact jj rfl ww oo_ (ks _ _ hp).1
                                |exact jj rfl ww oo_ (ks _ _ hp).2 | fail)
 |refine j0 ?_
  |refine qj ?_ (hy:=by intro hk hk2; first | exact zl rfl ul zds za_ ol_ (by omega)
                                              |exact zl (m:=0) rfl vk y0 oo_ ol_ (by decide)
                                              |exact zl (m:=1) rfl vk y0 oo_ ol_ (by decide)
                                              |exact jj rfl ww oo_ (ks _ _ hp).1
                                              |exact jj rfl ww oo_ (ks _ _ hp).2 | fail)
 |refine sw_ ?_ | refine w_frz ?_ | (refine zd ?_ ?_ <;> intro hb <;> try exact no_) | (refine sx_ ?_ <;> intro bb) | (refine su_ ?_ <;> intro u hu1 hu2) | fail)
 refine z5c (fun lo hi : Nat=>[(0,R r),(3,I lo),(4,I hi)]) (fun _ _=>[]) (fun lo hi=>lo ≤ hi ∧ hi ≤ 11 ∧ (∀ i p,kz[i]? = some p → i < lo → p.2 < r) ∧ (∀ i p,kz[i]? = some p → hi ≤ i → r < p.1)) (fun lo hi=>hi - lo) 0 11
  ⟨by omega,by omega,fun _ _ _ h=>by omega,fun i p h h'=>absurd (List.getElem?_eq_some_iff.1 h).1 (by simp [kz]; omega)⟩ wk_ rfl ?_
 rintro lo hi ⟨h1,h2,h3,h4⟩
 by_cases hlt : lo < hi
 ·obtain ⟨p,hp⟩ : ∃ p,kz[(lo + hi) / 2]? = some p:=⟨_,List.getElem?_eq_getElem (by simp [kz]; omega)⟩
  repeat' (first
  |refine sa_ ?_
   |refine jd ?_ (hy:=by first | exact zl rfl ul zds za_ ol_ (by omega)
                                 |exact zl (m:=0) rfl vk y0 oo_ ol_ (by decide)
                                 |exact zl (m:=1) rfl vk y0 oo_ ol_ (by decide)
                                 |exact jj rfl ww oo_ (ks _ _ hp).1
                                 |exact jj rfl ww oo_ (ks _ _ hp).2 | fail)
  |refine j0 ?_
   |refine qj ?_ (hy:=by intro hk hk2; first | exact zl rfl ul zds za_ ol_ (by omega)
                                               |exact zl (m:=0) rfl vk y0 oo_ ol_ (by decide)
                                               |exact zl (m:=1) rfl vk y0 oo_ ol_ (by decide)
                                               |exact jj rfl ww oo_ (ks _ _ hp).1
                                               |exact jj rfl ww oo_ (ks _ _ hp).2 | fail)
  |refine sw_ ?_ | refine w_frz ?_ | (refine zd ?_ ?_ <;> intro hb <;> try exact no_) | (refine sx_ ?_ <;> intro bb) | (refine su_ ?_ <;> intro u hu1 hu2) | fail)
  ·refine ⟨lo,(lo + hi) / 2,⟨by omega,by omega,h3,fun i q hq hi' => ?_⟩,by omega,wk_,rfl⟩
   have:=(zec _ _ _ _ hp hq hi').1
   omega
  ·refine ⟨(lo + hi) / 2 + 1,hi,⟨by omega,by omega,fun i q hq hi' => ?_,h4⟩,by omega,wk_,rfl⟩
   have:=(zec _ _ _ _ hq hp (by omega)).2
   omega
  ·refine ⟨_,[],rs_,List.nil_sublist _,Sub.eq (congrArg B ?_),rfl⟩
   rw [eq_comm,isW,List.any_eq_true]
   exact ⟨p,List.mem_of_getElem? hp,by simp; omega⟩
 ·repeat' (first
  |refine sa_ ?_
   |refine jd ?_ (hy:=by first | exact zl rfl ul zds za_ ol_ (by omega)
                                 |exact zl (m:=0) rfl vk y0 oo_ ol_ (by decide)
                                 |exact zl (m:=1) rfl vk y0 oo_ ol_ (by decide)
                                 |exact jj rfl ww oo_ (ks _ _ hp).1
                                 |exact jj rfl ww oo_ (ks _ _ hp).2 | fail)
  |refine j0 ?_
   |refine qj ?_ (hy:=by intro hk hk2; first | exact zl rfl ul zds za_ ol_ (by omega)
                                               |exact zl (m:=0) rfl vk y0 oo_ ol_ (by decide)
                                               |exact zl (m:=1) rfl vk y0 oo_ ol_ (by decide)
                                               |exact jj rfl ww oo_ (ks _ _ hp).1
                                               |exact jj rfl ww oo_ (ks _ _ hp).2 | fail)
  |refine sw_ ?_ | refine w_frz ?_ | (refine zd ?_ ?_ <;> intro hb <;> try exact no_) | (refine sx_ ?_ <;> intro bb) | (refine su_ ?_ <;> intro u hu1 hu2) | fail)
  refine ⟨_,[],rs_,List.nil_sublist _,Sub.eq (congrArg B ?_),rfl⟩
  rw [eq_comm,isW,List.any_eq_false]
  intro p hp
  obtain ⟨i,hi⟩:=List.mem_iff_getElem?.1 hp
  have e1:=h3 i p hi
  have e2:=h4 i p hi
  simp; omega
def zh (r : Int) : List zp:=if ctl r then [(94,0),(if r = 127 then 63 else r + 64,0)] else if ja r then (if isW r then [(r,1),(r,2)] else [(r,0)]) else [(65533,0)]
theorem wq (r : Int) : 1 ≤ (zh r).length ∧ (zh r).length ≤ 2:=by unfold zh; split <;> (try split) <;> (try split) <;> simp
theorem zk_ {r : Int} (h : isW r = true) : ja r = true ∧ ctl r = false:=by
 simp [isW,kz] at h
 simp [ja,isG,ctl]; omega
theorem zwg {r : Int} (h : ja r = true) : ctl r = false:=by
 simp [ja,isG] at h
 simp [ctl]; omega
theorem zen (r : Int) : (zh r).length = if ctl r || isW r then 2 else 1:=by
 unfold zh
 cases hc : ctl r <;> cases hw : isW r <;> cases hs : ja r <;> simp
 have:=zk_ hw
 rw [this.1] at hs; cases hs
theorem zxt (r : Int) (h : 0 ≤ r ∧ r < 32 ∨ r = 127) (t : TypeId) (P : Program) (w : World) : (binOp .xor t (.int .i32 r) (.int .i32 64)).run P w = .ok (.int .i32 (if r = 127 then 63 else r + 64)) w:=by
 have key : ∀ n : Fin 32,(binOp .xor t (.int .i32 ((n : Nat) : Int)) (.int .i32 64)).run P w = .ok (.int .i32 (((n : Nat) : Int) + 64)) w:=by
  intro n
  have k2 : ∀ n : Fin 32,IntKind.i32.wrap ((BitVec.ofInt 32 ((n : Nat) : Int) ^^^ BitVec.ofInt 32 64).toNat : Int) = ((n : Nat) : Int) + 64:=by decide
  have:=k2 n
  simp [binOp,Op.intBits,IntKind.bits] at this ⊢
  exact this
 rcases h with ⟨h1,h2⟩ | h
 ·obtain ⟨n,rfl⟩:=Int.eq_ofNat_of_zero_le h1
  rw [if_neg (by omega)]
  exact key ⟨n,by omega⟩
 ·subst h
  simp [binOp,Op.intBits,IntKind.bits]
  decide
theorem zs4 {l l' : List zp} (h : l = l') : Sub (slA qs l) (slA qs l'):=h ▸ Sub.refl _
theorem zg_ (r : Int) : AP Tryz.prog T0 120 [R r] (slA qs (zh r)):=by
 refine za Tryz.func120 rfl (by decide) Tryz.ntmps120 rfl ?_
 repeat' (first
 |refine sa_ ?_ | refine qd ?_ (c:=by first | exact we _ | exact f_ref02Shown _ | exact zit _ | exact f_ref02Wide _ | fail) | refine jd ?_ (hy:=by first | exact zkm rfl oo_ oo_ (zxt _ (by omega) _ _) | fail) | refine j0 ?_ | refine zr ?_ (c:=by intro hk hk2; first | exact we _ | exact f_ref02Shown _ | exact zit _ | exact f_ref02Wide _ | fail) | refine qj ?_ (hy:=by intro hk hk2; first | exact zkm rfl oo_ oo_ (zxt _ (by omega) _ _) | fail) | refine sw_ ?_ | refine w_frz ?_ | (refine zd ?_ ?_ <;> intro hb <;> try exact no_) | (refine sx_ ?_ <;> intro bb) | (refine su_ ?_ <;> intro u hu1 hu2) | fail)
 all_goals refine ⟨_,[],rs_,List.nil_sublist _,zs4 ?_,rfl⟩
 all_goals first
  |(have hc : ctl r = true:=(by simp [ctl]; omega); simp only [zh,hc,if_true]; done)
  |(have hc : ctl r = false:=(by simp [ctl]; omega); simp [zh, *]; done)
theorem zb8 (r : Int) : AP Tryz.prog T0 123 [R r] (I (zh r).length):=by
 refine za Tryz.func123 rfl (by decide) Tryz.ntmps123 rfl ?_
 repeat' (first
 |refine sa_ ?_ | refine qd ?_ (c:=by first | exact we _ | exact f_ref02Shown _ | exact zit _ | exact f_ref02Wide _ | exact zg_ _ | exact f_ref02Cells _ | fail) | refine jd ?_ (hy:=by first | exact zkm rfl oo_ oo_ (zxt _ (by omega) _ _) | fail) | refine j0 ?_ | refine zr ?_ (c:=by intro hk hk2; first | exact we _ | exact f_ref02Shown _ | exact zit _ | exact f_ref02Wide _ | exact zg_ _ | exact f_ref02Cells _ | fail) | refine qj ?_ (hy:=by intro hk hk2; first | exact zkm rfl oo_ oo_ (zxt _ (by omega) _ _) | fail) | refine sw_ ?_ | refine w_frz ?_ | (refine zd ?_ ?_ <;> intro hb <;> try exact no_) | (refine sx_ ?_ <;> intro bb) | (refine su_ ?_ <;> intro u hu1 hu2) | fail)
 all_goals refine ⟨_,[],rs_,List.nil_sublist _,Sub.eq ?_,rfl⟩
 ·rw [zen,if_pos (by simp [ctl]; exact hb)]; simp
 ·rw [zen,if_neg (by simp [ctl,hb.2]; omega)]; simp
end
section
open Go Go.RowKit
variable {T0 : Gh} [TabS T0]
attribute [local irreducible] zz zg AW AL AO QY qh z_ rsA Opd xh vA gvA zy qb slA jl ipA rpA EqK LnK IxK LdK FaK FdK
set_option maxRecDepth 100000
end
section
open Go Go.RowKit
variable {T0 : Gh} [TabS T0]
attribute [local irreducible] zz zg AW AL AO QY qh z_ rsA Opd xh vA gvA zy qb slA jl ipA rpA EqK LnK IxK LdK FaK FdK
set_option maxRecDepth 100000
def xv (c : zp) : Bool:=ja c.1 && (if isW c.1 then decide (c.2 = 1) || decide (c.2 = 2) else decide (c.2 = 0))
theorem zfn (c : zp) : AP Tryz.prog T0 157 [zh6 c] (B (xv c)):=by
 obtain ⟨r,k⟩:=c
 refine za Tryz.func157 rfl (by decide) Tryz.ntmps157 rfl ?_
 repeat' (first
 |refine g1_ ?_ | refine w_frz ?_ | (refine zd ?_ ?_ <;> intro hb <;> try exact no_) | (refine sx_ ?_ <;> intro bb) | (refine su_ ?_ <;> intro u hu1 hu2) | fail)
 all_goals refine ⟨_,[],rs_,List.nil_sublist _,Sub.eq (congrArg B ?_),rfl⟩
 all_goals (cases hs : ja r <;> cases hw : isW r <;> simp_all [xv])
 all_goals first | omega | (rw [Bool.eq_iff_iff]; simp; omega) | skip
theorem zb6 (a b : List zp) : AP Tryz.prog T0 64 [slA qs a,slA qs b] (B (decide (a = b))):=by
 refine za Tryz.func64 rfl (by decide) Tryz.ntmps64 rfl ?_
 refine z8x (T:=qs) 0 rfl fun hla => ?_
 repeat' (first
 |refine g1_ ?_ | refine w_frz ?_ | (refine zd ?_ ?_ <;> intro hb <;> try exact no_) | (refine sx_ ?_ <;> intro bb) | (refine su_ ?_ <;> intro u hu1 hu2) | fail)
 ·refine ⟨_,[],rs_,List.nil_sublist _,Sub.eq (congrArg B ?_),rfl⟩
  simp; intro h; subst h; omega
 refine zw4 (fun i : Nat=>[(0,slA qs a),(1,slA qs b),(5,I i)]) (fun _=>[]) (fun i=>i ≤ a.length ∧ a.take i = b.take i) (fun i=>a.length - i) 0 ⟨by omega,rfl⟩ wk_ rfl ?_
 rintro i ⟨h1,h2⟩
 by_cases hlt : i < a.length
 ·have hlt' : i < b.length:=by omega
  repeat' (first
  |refine g1_ ?_ | refine w_frz ?_ | (refine zd ?_ ?_ <;> intro hb <;> try exact no_) | (refine sx_ ?_ <;> intro bb) | (refine su_ ?_ <;> intro u hu1 hu2) | fail)
  ·refine ⟨_,[],rs_,List.nil_sublist _,Sub.eq (congrArg B ?_),rfl⟩
   simp; intro h; subst h; simp at hb
  ·refine ⟨i + 1,⟨by omega, ?_⟩,by omega,wk_,rfl⟩
   rw [List.take_succ_eq_append_getElem hlt,List.take_succ_eq_append_getElem hlt',h2]
   simp at hb
   have hh : a[i] = b[i]:=Prod.ext hb.1 hb.2
   rw [hh]
 ·repeat' (first
  |refine g1_ ?_ | refine w_frz ?_ | (refine zd ?_ ?_ <;> intro hb <;> try exact no_) | (refine sx_ ?_ <;> intro bb) | (refine su_ ?_ <;> intro u hu1 hu2) | fail)
  refine ⟨_,[],rs_,List.nil_sublist _,Sub.eq (congrArg B ?_),rfl⟩
  rw [List.take_of_length_le (by omega),List.take_of_length_le (by omega)] at h2
  simp [h2]
end
end Go.Proofs.YtgfmjmfphmjdkaaGreatDoor
