/- Several texts in one: see the comment ahead of each. No condition. -/
import Derived.Test.YtgfmjmfphmjdkaaGreatDoorR1ZB
set_option linter.unusedSimpArgs false
set_option linter.unusedVariables false
set_option linter.unusedSectionVars false
namespace Go.Proofs.YtgfmjmfphmjdkaaGreatDoor
set_option maxHeartbeats 4000000
section
open Go Go.RowKit
variable {T0 : Gh}
attribute [local irreducible] z_ zg AW AL AO QY qd zx rsA Opd xi vA gvA zt z0 slA jc ipA rpA EqK LnK IxK LdK FaK FdK
set_option maxRecDepth 100000
theorem AP.to {f : FuncId} {As : List AV} {A A' : AV} (h : AP Tryz.prog T0 f As A) (e : A = A') : AP Tryz.prog T0 f As A':=e ▸ h
def isG (r : Int) : Bool:=(decide (0 ≤ r) && decide (r < 55296)) || (decide (57343 < r) && decide (r ≤ 1114111))
def xq (r : Int) : Bool:=isG r && decide (32 ≤ r) && (decide (r < 127) || decide (159 < r))
def isW (r : Int) : Bool:=vd.any fun p=>decide (p.1 ≤ r) && decide (r ≤ p.2)
def ctl (r : Int) : Bool:=(decide (0 ≤ r) && decide (r < 32)) || decide (r = 127)
theorem zhg (r : Int) : AP Tryz.prog T0 185 [R r] (B (isG r)):=by
 refine za Tryz.func185 rfl (by decide) Tryz.ntmps185 rfl ?_
 repeat' (first
 |refine g6_ ?_ | refine w_frz ?_ | (refine zb ?_ ?_ <;> intro hb <;> try exact no_) | (refine sx_ ?_ <;> intro bb) | (refine su_ ?_ <;> intro u hu1 hu2) | fail)
 all_goals refine ⟨_,[],rs_,List.nil_sublist _,Sub.eq (congrArg B ?_),rfl⟩
 all_goals (rw [Bool.eq_iff_iff]; simp [isG]; omega)
theorem zc_ (r : Int) : AP Tryz.prog T0 158 [R r] (B (isG r)):=by
 refine za Tryz.func158 rfl (by decide) Tryz.ntmps158 rfl ?_
 repeat' (first
 |refine g5_ ?_ | refine w_frz ?_ | (refine zb ?_ ?_ <;> intro hb <;> try exact no_) | (refine sx_ ?_ <;> intro bb) | (refine su_ ?_ <;> intro u hu1 hu2) | fail)
 exact ⟨_,[],rs_,List.nil_sublist _,Sub.refl _,rfl⟩
theorem zao (r : Int) : AP Tryz.prog T0 188 [R r] (B (isG r)):=by
 refine za Tryz.func188 rfl (by decide) Tryz.ntmps188 rfl ?_
 repeat' (first
 |refine g5_ ?_ | refine w_frz ?_ | (refine zb ?_ ?_ <;> intro hb <;> try exact no_) | (refine sx_ ?_ <;> intro bb) | (refine su_ ?_ <;> intro u hu1 hu2) | fail)
 refine ⟨_,[],rs_,List.nil_sublist _,Sub.eq (congrArg B ?_),rfl⟩
 rw [Bool.eq_iff_iff]; simp [isG]; omega
theorem wr (r : Int) : AP Tryz.prog T0 118 [R r] (B (xq r)):=by
 refine za Tryz.func118 rfl (by decide) Tryz.ntmps118 rfl ?_
 repeat' (first
 |refine g4_ ?_ | refine w_frz ?_ | (refine zb ?_ ?_ <;> intro hb <;> try exact no_) | (refine sx_ ?_ <;> intro bb) | (refine su_ ?_ <;> intro u hu1 hu2) | fail)
 exact ⟨_,[],rs_,List.nil_sublist _,Sub.refl _,rfl⟩
theorem xj (r : Int) : AP Tryz.prog T0 166 [R r] (B (xq r)):=by
 refine za Tryz.func166 rfl (by decide) Tryz.ntmps166 rfl ?_
 repeat' (first
 |refine g4_ ?_ | refine w_frz ?_ | (refine zb ?_ ?_ <;> intro hb <;> try exact no_) | (refine sx_ ?_ <;> intro bb) | (refine su_ ?_ <;> intro u hu1 hu2) | fail)
 refine ⟨_,[],rs_,List.nil_sublist _,Sub.eq (congrArg B ?_),rfl⟩
 rw [Bool.eq_iff_iff]; simp [xq]
theorem jn (r : Int) : AP Tryz.prog T0 184 [R r] (B (isW r)):=by
 refine za Tryz.func184 rfl (by decide) Tryz.ntmps184 rfl ?_
 repeat' (first
 |refine g4_ ?_ | refine w_frz ?_ | (refine zb ?_ ?_ <;> intro hb <;> try exact no_) | (refine sx_ ?_ <;> intro bb) | (refine su_ ?_ <;> intro u hu1 hu2) | fail)
 refine ⟨_,[],rs_,List.nil_sublist _,Sub.eq (congrArg B ?_),rfl⟩
 rw [Bool.eq_iff_iff]; simp [isW,vd]; omega
end
section
open Go Go.RowKit
variable {T0 : Gh} [TabS T0]
attribute [local irreducible] z_ zg AW AL AO QY qd zx rsA Opd xi vA gvA zt z0 slA jc ipA rpA EqK LnK IxK LdK FaK FdK
set_option maxRecDepth 100000
theorem zeh (i j : Nat) (p q : Int × Int) (hi : vd[i]? = some p) (hj : vd[j]? = some q) (h : i ≤ j) : p.1 ≤ q.1 ∧ p.2 ≤ q.2:=by
 obtain ⟨h1,rfl⟩:=List.getElem?_eq_some_iff.1 hi
 obtain ⟨h2,rfl⟩:=List.getElem?_eq_some_iff.1 hj
 have key : ∀ i j : Fin 11,i ≤ j → vd[i].1 ≤ vd[j].1 ∧ vd[i].2 ≤ vd[j].2:=by decide
 exact key ⟨i,h1⟩ ⟨j,h2⟩ h
theorem zi5 (r : Int) : AP Tryz.prog T0 159 [R r] (B (isW r)):=by
 refine za Tryz.func159 rfl (by decide) Tryz.ntmps159 rfl ?_
 repeat' (first
 |refine sa_ ?_
  |refine xr ?_ (hy:=by first | exact zl rfl uk zdu za4 ol_ (by omega)
                                |exact zl (m:=0) rfl vu y5 oo_ ol_ (by decide)
                                |exact zl (m:=1) rfl vu y5 oo_ ol_ (by decide)
                                |exact jj rfl ya oo_ (k_ _ _ hp).1
                                |exact jj rfl ya oo_ (k_ _ _ hp).2 | fail)
 |refine x5 ?_
  |refine qc ?_ (hy:=by intro hk hk2; first | exact zl rfl uk zdu za4 ol_ (by omega)
                                              |exact zl (m:=0) rfl vu y5 oo_ ol_ (by decide)
                                              |exact zl (m:=1) rfl vu y5 oo_ ol_ (by decide)
                                              |exact jj rfl ya oo_ (k_ _ _ hp).1
                                              |exact jj rfl ya oo_ (k_ _ _ hp).2 | fail)
 |refine sw_ ?_ | refine w_frz ?_ | (refine zb ?_ ?_ <;> intro hb <;> try exact no_) | (refine sx_ ?_ <;> intro bb) | (refine su_ ?_ <;> intro u hu1 hu2) | fail)
 refine z6o (fun lo hi : Nat=>[(0,R r),(3,I lo),(4,I hi)]) (fun _ _=>[]) (fun lo hi=>lo ≤ hi ∧ hi ≤ 11 ∧ (∀ i p,vd[i]? = some p → i < lo → p.2 < r) ∧ (∀ i p,vd[i]? = some p → hi ≤ i → r < p.1)) (fun lo hi=>hi - lo) 0 11
  ⟨by omega,by omega,fun _ _ _ h=>by omega,fun i p h h'=>absurd (List.getElem?_eq_some_iff.1 h).1 (by simp [vd]; omega)⟩ wk_ rfl ?_
 rintro lo hi ⟨h1,h2,h3,h4⟩
 by_cases hlt : lo < hi
 ·obtain ⟨p,hp⟩ : ∃ p,vd[(lo + hi) / 2]? = some p:=⟨_,List.getElem?_eq_getElem (by simp [vd]; omega)⟩
  repeat' (first
  |refine sa_ ?_
   |refine xr ?_ (hy:=by first | exact zl rfl uk zdu za4 ol_ (by omega)
                                 |exact zl (m:=0) rfl vu y5 oo_ ol_ (by decide)
                                 |exact zl (m:=1) rfl vu y5 oo_ ol_ (by decide)
                                 |exact jj rfl ya oo_ (k_ _ _ hp).1
                                 |exact jj rfl ya oo_ (k_ _ _ hp).2 | fail)
  |refine x5 ?_
   |refine qc ?_ (hy:=by intro hk hk2; first | exact zl rfl uk zdu za4 ol_ (by omega)
                                               |exact zl (m:=0) rfl vu y5 oo_ ol_ (by decide)
                                               |exact zl (m:=1) rfl vu y5 oo_ ol_ (by decide)
                                               |exact jj rfl ya oo_ (k_ _ _ hp).1
                                               |exact jj rfl ya oo_ (k_ _ _ hp).2 | fail)
  |refine sw_ ?_ | refine w_frz ?_ | (refine zb ?_ ?_ <;> intro hb <;> try exact no_) | (refine sx_ ?_ <;> intro bb) | (refine su_ ?_ <;> intro u hu1 hu2) | fail)
  ·refine ⟨lo,(lo + hi) / 2,⟨by omega,by omega,h3,fun i q hq hi' => ?_⟩,by omega,wk_,rfl⟩
   have:=(zeh _ _ _ _ hp hq hi').1
   omega
  ·refine ⟨(lo + hi) / 2 + 1,hi,⟨by omega,by omega,fun i q hq hi' => ?_,h4⟩,by omega,wk_,rfl⟩
   have:=(zeh _ _ _ _ hq hp (by omega)).2
   omega
  ·refine ⟨_,[],rs_,List.nil_sublist _,Sub.eq (congrArg B ?_),rfl⟩
   rw [eq_comm,isW,List.any_eq_true]
   exact ⟨p,List.mem_of_getElem? hp,by simp; omega⟩
 ·repeat' (first
  |refine sa_ ?_
   |refine xr ?_ (hy:=by first | exact zl rfl uk zdu za4 ol_ (by omega)
                                 |exact zl (m:=0) rfl vu y5 oo_ ol_ (by decide)
                                 |exact zl (m:=1) rfl vu y5 oo_ ol_ (by decide)
                                 |exact jj rfl ya oo_ (k_ _ _ hp).1
                                 |exact jj rfl ya oo_ (k_ _ _ hp).2 | fail)
  |refine x5 ?_
   |refine qc ?_ (hy:=by intro hk hk2; first | exact zl rfl uk zdu za4 ol_ (by omega)
                                               |exact zl (m:=0) rfl vu y5 oo_ ol_ (by decide)
                                               |exact zl (m:=1) rfl vu y5 oo_ ol_ (by decide)
                                               |exact jj rfl ya oo_ (k_ _ _ hp).1
                                               |exact jj rfl ya oo_ (k_ _ _ hp).2 | fail)
  |refine sw_ ?_ | refine w_frz ?_ | (refine zb ?_ ?_ <;> intro hb <;> try exact no_) | (refine sx_ ?_ <;> intro bb) | (refine su_ ?_ <;> intro u hu1 hu2) | fail)
  refine ⟨_,[],rs_,List.nil_sublist _,Sub.eq (congrArg B ?_),rfl⟩
  rw [eq_comm,isW,List.any_eq_false]
  intro p hp
  obtain ⟨i,hi⟩:=List.mem_iff_getElem?.1 hp
  have e1:=h3 i p hi
  have e2:=h4 i p hi
  simp; omega
def zh (r : Int) : List zp:=if ctl r then [(94,0),(if r = 127 then 63 else r + 64,0)] else if xq r then (if isW r then [(r,1),(r,2)] else [(r,0)]) else [(65533,0)]
theorem vg (r : Int) : 1 ≤ (zh r).length ∧ (zh r).length ≤ 2:=by unfold zh; split <;> (try split) <;> (try split) <;> simp
theorem zll {r : Int} (h : isW r = true) : xq r = true ∧ ctl r = false:=by
 simp [isW,vd] at h
 simp [xq,isG,ctl]; omega
theorem zx2 {r : Int} (h : xq r = true) : ctl r = false:=by
 simp [xq,isG] at h
 simp [ctl]; omega
theorem zev (r : Int) : (zh r).length = if ctl r || isW r then 2 else 1:=by
 unfold zh
 cases hc : ctl r <;> cases hw : isW r <;> cases hs : xq r <;> simp
 have:=zll hw
 rw [this.1] at hs; cases hs
theorem zze (r : Int) (h : 0 ≤ r ∧ r < 32 ∨ r = 127) (t : TypeId) (P : Program) (w : World) : (binOp .xor t (.int .i32 r) (.int .i32 64)).run P w = .ok (.int .i32 (if r = 127 then 63 else r + 64)) w:=by
 have key : ∀ n : Fin 32,(binOp .xor t (.int .i32 ((n : Nat) : Int)) (.int .i32 64)).run P w = .ok (.int .i32 (((n : Nat) : Int) + 64)) w:=by
  intro n
  have k2 : ∀ n : Fin 32,IntKind.i32.wrap ((BitVec.ofInt 32 ((n : Nat) : Int) ^^^ BitVec.ofInt 32 64).toNat : Int) = ((n : Nat) : Int) + 64:=by decide
  have:=k2 n
  simp [binOp,Op.intBits,IntKind.bits] at this ⊢
  exact this
 rcases h with ⟨h1,h2⟩ | h
 ·obtain ⟨n,rfl⟩:=Int.eq_ofNat_of_zero_le h1
  rw [if_neg (by omega)]
  exact key ⟨n,by omega⟩
 ·subst h
  simp [binOp,Op.intBits,IntKind.bits]
  decide
theorem zlk {l l' : List zp} (h : l = l') : Sub (slA qg l) (slA qg l'):=h ▸ Sub.refl _
theorem zhh (r : Int) : AP Tryz.prog T0 120 [R r] (slA qg (zh r)):=by
 refine za Tryz.func120 rfl (by decide) Tryz.ntmps120 rfl ?_
 repeat' (first
 |refine g3_ ?_ | refine w_frz ?_ | (refine zb ?_ ?_ <;> intro hb <;> try exact no_) | (refine sx_ ?_ <;> intro bb) | (refine su_ ?_ <;> intro u hu1 hu2) | fail)
 all_goals refine ⟨_,[],rs_,List.nil_sublist _,zlk ?_,rfl⟩
 all_goals first
  |(have hc : ctl r = true:=(by simp [ctl]; omega); simp only [zh,hc,if_true]; done)
  |(have hc : ctl r = false:=(by simp [ctl]; omega); simp [zh, *]; done)
theorem kf (r : Int) : AP Tryz.prog T0 153 [R r] (slA qg (zh r)):=by
 refine za Tryz.func153 rfl (by decide) Tryz.ntmps153 rfl ?_
 repeat' (first
 |refine g3_ ?_ | refine w_frz ?_ | (refine zb ?_ ?_ <;> intro hb <;> try exact no_) | (refine sx_ ?_ <;> intro bb) | (refine su_ ?_ <;> intro u hu1 hu2) | fail)
 all_goals refine ⟨_,[],rs_,List.nil_sublist _,zlk ?_,rfl⟩
 all_goals first
  |(subst_vars; rfl)
  |(have hc : ctl r = true:=(by simp [ctl]; omega); simp only [zh,hc,if_true]; rw [if_neg (by omega)]; done)
  |(have hc : ctl r = false:=(by simp [ctl]; omega); simp [zh, *]; done)
theorem zb1 (r : Int) : AP Tryz.prog T0 123 [R r] (I (zh r).length):=by
 refine za Tryz.func123 rfl (by decide) Tryz.ntmps123 rfl ?_
 repeat' (first
 |refine g2_ ?_ | refine w_frz ?_ | (refine zb ?_ ?_ <;> intro hb <;> try exact no_) | (refine sx_ ?_ <;> intro bb) | (refine su_ ?_ <;> intro u hu1 hu2) | fail)
 all_goals refine ⟨_,[],rs_,List.nil_sublist _,Sub.eq ?_,rfl⟩
 ·rw [zev,if_pos (by simp [ctl]; exact hb)]; simp
 ·rw [zev,if_neg (by simp [ctl,hb.2]; omega)]; simp
theorem yq (r : Int) : AP Tryz.prog T0 170 [R r] (I (zh r).length):=by
 refine za Tryz.func170 rfl (by decide) Tryz.ntmps170 rfl ?_
 repeat' (first
 |refine g2_ ?_ | refine w_frz ?_ | (refine zb ?_ ?_ <;> intro hb <;> try exact no_) | (refine sx_ ?_ <;> intro bb) | (refine su_ ?_ <;> intro u hu1 hu2) | fail)
 exact ⟨_,[],rs_,List.nil_sublist _,qdo,rfl⟩
end
section
open Go Go.RowKit
variable {T0 : Gh} [TabS T0]
attribute [local irreducible] z_ zg AW AL AO QY qd zx rsA Opd xi vA gvA zt z0 slA jc ipA rpA EqK LnK IxK LdK FaK FdK
set_option maxRecDepth 100000
end
section
open Go Go.RowKit
variable {T0 : Gh} [TabS T0]
attribute [local irreducible] z_ zg AW AL AO QY qd zx rsA Opd xi vA gvA zt z0 slA jc ipA rpA EqK LnK IxK LdK FaK FdK
set_option maxRecDepth 100000
def xo (c : zp) : Bool:=xq c.1 && (if isW c.1 then decide (c.2 = 1) || decide (c.2 = 2) else decide (c.2 = 0))
theorem zfq (c : zp) : AP Tryz.prog T0 157 [zhr c] (B (xo c)):=by
 obtain ⟨r,k⟩:=c
 refine za Tryz.func157 rfl (by decide) Tryz.ntmps157 rfl ?_
 repeat' (first
 |refine g1_ ?_ | refine w_frz ?_ | (refine zb ?_ ?_ <;> intro hb <;> try exact no_) | (refine sx_ ?_ <;> intro bb) | (refine su_ ?_ <;> intro u hu1 hu2) | fail)
 all_goals refine ⟨_,[],rs_,List.nil_sublist _,Sub.eq (congrArg B ?_),rfl⟩
 all_goals (cases hs : xq r <;> cases hw : isW r <;> simp_all [xo])
 all_goals first | omega | (rw [Bool.eq_iff_iff]; simp; omega) | skip
theorem wh (c : zp) : AP Tryz.prog T0 165 [zhr c] (B (xo c)):=by
 obtain ⟨r,k⟩:=c
 refine za Tryz.func165 rfl (by decide) Tryz.ntmps165 rfl ?_
 repeat' (first
 |refine g1_ ?_ | refine w_frz ?_ | (refine zb ?_ ?_ <;> intro hb <;> try exact no_) | (refine sx_ ?_ <;> intro bb) | (refine su_ ?_ <;> intro u hu1 hu2) | fail)
 all_goals refine ⟨_,[],rs_,List.nil_sublist _,Sub.eq (congrArg B ?_),rfl⟩
 all_goals (simp_all [xo])
theorem zov (a b : List zp) : AP Tryz.prog T0 64 [slA qg a,slA qg b] (B (decide (a = b))):=by
 refine za Tryz.func64 rfl (by decide) Tryz.ntmps64 rfl ?_
 refine z9r (T:=qg) 0 rfl fun hla => ?_
 repeat' (first
 |refine g1_ ?_ | refine w_frz ?_ | (refine zb ?_ ?_ <;> intro hb <;> try exact no_) | (refine sx_ ?_ <;> intro bb) | (refine su_ ?_ <;> intro u hu1 hu2) | fail)
 ·refine ⟨_,[],rs_,List.nil_sublist _,Sub.eq (congrArg B ?_),rfl⟩
  simp; intro h; subst h; omega
 refine zyt (fun i : Nat=>[(0,slA qg a),(1,slA qg b),(5,I i)]) (fun _=>[]) (fun i=>i ≤ a.length ∧ a.take i = b.take i) (fun i=>a.length - i) 0 ⟨by omega,rfl⟩ wk_ rfl ?_
 rintro i ⟨h1,h2⟩
 by_cases hlt : i < a.length
 ·have hlt' : i < b.length:=by omega
  repeat' (first
  |refine g1_ ?_ | refine w_frz ?_ | (refine zb ?_ ?_ <;> intro hb <;> try exact no_) | (refine sx_ ?_ <;> intro bb) | (refine su_ ?_ <;> intro u hu1 hu2) | fail)
  ·refine ⟨_,[],rs_,List.nil_sublist _,Sub.eq (congrArg B ?_),rfl⟩
   simp; intro h; subst h; simp at hb
  ·refine ⟨i + 1,⟨by omega, ?_⟩,by omega,wk_,rfl⟩
   rw [List.take_succ_eq_append_getElem hlt,List.take_succ_eq_append_getElem hlt',h2]
   simp at hb
   have hh : a[i] = b[i]:=Prod.ext hb.1 hb.2
   rw [hh]
 ·repeat' (first
  |refine g1_ ?_ | refine w_frz ?_ | (refine zb ?_ ?_ <;> intro hb <;> try exact no_) | (refine sx_ ?_ <;> intro bb) | (refine su_ ?_ <;> intro u hu1 hu2) | fail)
  refine ⟨_,[],rs_,List.nil_sublist _,Sub.eq (congrArg B ?_),rfl⟩
  rw [List.take_of_length_le (by omega),List.take_of_length_le (by omega)] at h2
  simp [h2]
end
end Go.Proofs.YtgfmjmfphmjdkaaGreatDoor
