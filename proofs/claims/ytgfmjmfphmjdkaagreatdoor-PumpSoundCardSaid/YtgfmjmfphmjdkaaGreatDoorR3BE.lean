/- Layer 27 (belief): what a command touches, what is forgotten, by the program. No condition. -/
import Derived.Test.YtgfmjmfphmjdkaaGreatDoorR3BD
import Derived.Test.YtgfmjmfphmjdkaaGreatDoorR3B1
set_option linter.unusedSimpArgs false
set_option linter.unusedVariables false
set_option linter.unusedSectionVars false
namespace Go.Proofs.YtgfmjmfphmjdkaaGreatDoor
set_option maxHeartbeats 4000000
open Go Go.RowKit
set_option maxRecDepth 100000
variable {T0 : Gh} [TabS T0]
theorem z9y {a a' b b' : Int} (h1 : a = a') (h2 : b = b') : zy [I a,I b] = zy [I a',I b']:=by rw [h1,h2]
theorem zfe {w h : Int} {l : List zj} {x y : Int} {b s : Bool} (h1 : yx w h l x y b s = true) : (l.length : Int) = w * h ∧ l.length ≤ 1920 ∧ (2 ≤ w ∧ w ≤ 80 ∧ 1 ≤ h ∧ h ≤ 24):=by
 obtain ⟨w',h',rfl,rfl,w2,w3,w4,w5,hl,hk,p1,p2⟩:=qn.1 h1
 have:=yg w3 w5
 exact ⟨by rw [hl]; exact Int.natCast_mul w' h',by omega,by omega⟩
attribute [local irreducible] zz zg AW AL AO QY qh z_ rsA Opd xh vA gvA zy qb slA jl ipA rpA EqK LnK IxK LdK FaK FdK
theorem zvt (w h : Int) (l : List zj) (x y : Int) (b s : Bool) (c : Cmd) : AP Tryz.prog T0 132 [zad w h l x y b s,yw c] (zy [I (jh (w,h,l,x,y,b,s) c).1,I (jh (w,h,l,x,y,b,s) c).2]):=by
 have c1:=vy (T0:=T0) w h l x y b s
 have c2:=wi (T0:=T0) c
 have c3:=uf (T0:=T0) c.1
 by_cases h0 : yx w h l x y b s = true ∧ z9 c = true ∧ chg c.1 = true
 ·obtain ⟨hok,hc,hg⟩:=h0
  rw [hok] at c1
  rw [hc] at c2
  rw [hg] at c3
  obtain ⟨hl,hl2,hw⟩:=zfe hok
  have hk : (∃ r,c = (1,0,0,r) ∧ ja r = true) ∨ c = (7,0,0,0) ∨ c = (8,0,0,0) ∨ c = (10,0,0,0):=by
   rcases u5 hc with ⟨r,rfl,hs⟩ | ⟨a,d,rfl,_⟩ | ⟨k,a,rfl,hk,_⟩ | ⟨k,rfl,hk⟩
   ·exact .inl ⟨r,rfl,hs⟩
   ·simp [chg] at hg
   ·simp [chg] at hg; omega
   ·simp [chg] at hg
    rcases hg with ((q | q) | q) | q
    ·omega
    ·exact .inr (.inl (by rw [q]))
    ·exact .inr (.inr (.inl (by rw [q])))
    ·exact .inr (.inr (.inr (by rw [q])))
  have hx : -1000 ≤ x ∧ x ≤ 1000:=by
   obtain ⟨w',h',e1,e2,w2,w3,w4,w5,_,_,p1,p2⟩:=qn.1 hok
   cases s with
   |true=>have:=p1 rfl; omega
   |false=>have:=p2 rfl; omega
  have c4:=z3_ (T0:=T0) w h l x y b s c hx
  cases s with
  |false =>
   have e : jh (w,h,l,x,y,b,false) c = (0,w * h):=by
    unfold jh; rw [if_neg (fun z=>z ⟨hok,hc,hg⟩),if_pos (.inl rfl)]
   rw [e]
   obtain ⟨k,a,d,r⟩:=c
   have c5 : True:=trivial
   obtain ⟨rfl,rfl,rfl⟩ : x = 0 ∧ y = 0 ∧ b = false:=by
    obtain ⟨_,_,_,_,_,_,_,_,_,_,_,p2⟩:=qn.1 hok
    exact p2 rfl
   generalize (decide ((k,a,d,r).1 = 1) && (false || decide (w < 0 + ((zh (k,a,d,r).2.2.2).length : Int)))) = v at *
   refine za Tryz.func132 rfl (by decide) Tryz.ntmps132 rfl ?_
   repeat' (first
   |refine zzv ?_ | (refine zd ?_ ?_ <;> intro hb <;> try exact no_) | (refine sx_ ?_ <;> intro bb) | (refine su_ ?_ <;> intro u hu1 hu2) | fail)
   all_goals first | exact e9_ | skip
  |true =>
   obtain ⟨_,hx2,_,_,hm,_,_⟩:=zbl hok
   have hm2:=zgn (w:=w) (h:=h) (y:=y) (by omega) (by omega) (by omega)
   have hmul : (y + 1) * w = y * w + w:=by rw [Int.add_mul,Int.one_mul]
   have te : jh (w,h,l,x,y,b,true) c = if qc w x b c = true ∧ y = h - 1 then (0,w * h) else if c.1 = 10 then (0,0) else
     ((if qc w x b c = true then y + 1 else y) * w + max ((if qc w x b c = true then 0 else x) - 1) 0,if c.1 = 7 then ((if qc w x b c = true then y + 1 else y) + 1) * w else if c.1 = 8 then w * h else (if qc w x b c = true then y + 1 else y) * w + min w ((if qc w x b c = true then 0 else x) + (zh c.2.2.2).length + 1)):=by
    unfold jh; rw [if_neg (fun z=>z ⟨hok,hc,hg⟩)]
    by_cases q : qc w x b c = true ∧ y = h - 1
    ·rw [if_pos (.inr q),if_pos q]
    ·rw [if_neg (fun z=>by rcases z with z | z; cases z; exact q z),if_neg q]
   rw [te]
   rcases hk with ⟨r,rfl,hs⟩ | rfl | rfl | rfl
   ·have hn:=j5 hs
    have c5:=zb8 (T0:=T0) r
    have gd : qc w x b (1,0,0,r) = true ↔ (b = true ∨ w < x + (zh r).length):=by simp [qc]
    by_cases hq : b = true ∨ w < x + (zh r).length
    ·have c4' : AP Tryz.prog T0 119 [zad w h l x y b true,yw (1,0,0,r)] (B true):=c4.to (congrArg B (by rcases hq with q | q <;> simp [q]))
     replace c4:=c4'
     by_cases e2 : y = h - 1
     ·rw [if_pos ⟨gd.2 hq,e2⟩]
      clear te gd
      generalize zh r = cs at *
      refine za Tryz.func132 rfl (by decide) Tryz.ntmps132 rfl ?_
      repeat' (first
      |refine zzv ?_ | (refine zd ?_ ?_ <;> intro hb <;> try exact no_) | (refine sx_ ?_ <;> intro bb) | (refine su_ ?_ <;> intro u hu1 hu2) | fail)
      all_goals first | exact e9_ | skip
     ·rw [if_neg (fun z=>e2 z.2),if_neg (show ¬ ((1 : Int) = 10) by decide),if_pos (gd.2 hq),if_pos (gd.2 hq),if_neg (show ¬ ((1 : Int) = 7) by decide),if_neg (show ¬ ((1 : Int) = 8) by decide)]
      clear te gd
      dsimp only
      generalize zh r = cs at *
      refine za Tryz.func132 rfl (by decide) Tryz.ntmps132 rfl ?_
      repeat' (first
      |refine zzv ?_ | (refine zd ?_ ?_ <;> intro hb <;> try exact no_) | (refine sx_ ?_ <;> intro bb) | (refine su_ ?_ <;> intro u hu1 hu2) | fail)
      all_goals first | exact e9_ | skip
    ·have c4' : AP Tryz.prog T0 119 [zad w h l x y b true,yw (1,0,0,r)] (B false):=c4.to (congrArg B (by
      cases b with
      |true=>exact absurd (.inl rfl) hq
      |false=>simp; omega))
     replace c4:=c4'
     have gn : ¬ qc w x b (1,0,0,r) = true:=fun z=>hq (gd.1 z)
     rw [if_neg (fun z=>gn z.1),if_neg (show ¬ ((1 : Int) = 10) by decide),if_neg gn,if_neg gn,if_neg (show ¬ ((1 : Int) = 7) by decide),if_neg (show ¬ ((1 : Int) = 8) by decide)]
     clear te gd gn
     dsimp only
     generalize zh r = cs at *
     refine za Tryz.func132 rfl (by decide) Tryz.ntmps132 rfl ?_
     repeat' (first
     |refine zzv ?_ | (refine zd ?_ ?_ <;> intro hb <;> try exact no_) | (refine sx_ ?_ <;> intro bb) | (refine su_ ?_ <;> intro u hu1 hu2) | fail)
     all_goals first | exact e9_ | skip
   ·have c5 : True:=trivial
    replace c4 : AP Tryz.prog T0 119 [zad w h l x y b true,yw (7,0,0,0)] (B false):=c4
    have gn : ¬ qc w x b (7,0,0,0) = true:=by simp [qc]
    rw [if_neg (fun z=>gn z.1),if_neg (by decide),if_neg gn,if_neg gn,if_pos rfl]
    clear te gn
    refine za Tryz.func132 rfl (by decide) Tryz.ntmps132 rfl ?_
    repeat' (first
    |refine zzv ?_ | (refine zd ?_ ?_ <;> intro hb <;> try exact no_) | (refine sx_ ?_ <;> intro bb) | (refine su_ ?_ <;> intro u hu1 hu2) | fail)
    all_goals first | exact e9_ | skip
   ·have c5 : True:=trivial
    replace c4 : AP Tryz.prog T0 119 [zad w h l x y b true,yw (8,0,0,0)] (B false):=c4
    have gn : ¬ qc w x b (8,0,0,0) = true:=by simp [qc]
    rw [if_neg (fun z=>gn z.1),if_neg (by decide),if_neg gn,if_neg gn,if_neg (by decide),if_pos rfl]
    clear te gn
    refine za Tryz.func132 rfl (by decide) Tryz.ntmps132 rfl ?_
    repeat' (first
    |refine zzv ?_ | (refine zd ?_ ?_ <;> intro hb <;> try exact no_) | (refine sx_ ?_ <;> intro bb) | (refine su_ ?_ <;> intro u hu1 hu2) | fail)
    all_goals first | exact e9_ | skip
   ·have c5 : True:=trivial
    replace c4 : AP Tryz.prog T0 119 [zad w h l x y b true,yw (10,0,0,0)] (B false):=c4
    have gp : qc w x b (10,0,0,0) = true:=by simp [qc]
    by_cases e2 : y = h - 1
    ·rw [if_pos ⟨gp,e2⟩]
     clear te gp
     refine za Tryz.func132 rfl (by decide) Tryz.ntmps132 rfl ?_
     repeat' (first
     |refine zzv ?_ | (refine zd ?_ ?_ <;> intro hb <;> try exact no_) | (refine sx_ ?_ <;> intro bb) | (refine su_ ?_ <;> intro u hu1 hu2) | fail)
     all_goals first | exact e9_ | skip
    ·rw [if_neg (fun z=>e2 z.2),if_pos rfl]
     clear te gp
     refine za Tryz.func132 rfl (by decide) Tryz.ntmps132 rfl ?_
     repeat' (first
     |refine zzv ?_ | (refine zd ?_ ?_ <;> intro hb <;> try exact no_) | (refine sx_ ?_ <;> intro bb) | (refine su_ ?_ <;> intro u hu1 hu2) | fail)
     all_goals first | exact e9_ | skip
 ·have e : jh (w,h,l,x,y,b,s) c = (0,0):=by unfold jh; rw [if_pos h0]
  rw [e]
  have c4 : True:=trivial
  have c5 : True:=trivial
  generalize yx w h l x y b s = v1 at *
  generalize z9 c = v2 at *
  generalize chg c.1 = v3 at *
  obtain ⟨k,a,d,r⟩:=c
  refine za Tryz.func132 rfl (by decide) Tryz.ntmps132 rfl ?_
  repeat' (first
  |refine zzv ?_ | (refine zd ?_ ?_ <;> intro hb <;> try exact no_) | (refine sx_ ?_ <;> intro bb) | (refine su_ ?_ <;> intro u hu1 hu2) | fail)
  all_goals first | exact ⟨_,[],rl_,List.nil_sublist _,Sub.refl _,rfl⟩ | (exfalso; exact h0 ⟨hb.1.1,hb.1.2,hb.2⟩) | skip
end Go.Proofs.YtgfmjmfphmjdkaaGreatDoor
