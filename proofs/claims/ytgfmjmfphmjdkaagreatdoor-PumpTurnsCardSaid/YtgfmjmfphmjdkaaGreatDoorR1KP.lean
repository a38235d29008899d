/- Layer 9 (link), plainly. No condition. -/
import Derived.Test.YtgfmjmfphmjdkaaGreatDoorR1ZV
set_option linter.unusedSimpArgs false
set_option linter.unusedVariables false
set_option linter.unusedSectionVars false
namespace Go.Proofs.YtgfmjmfphmjdkaaGreatDoor
set_option maxHeartbeats 4000000
open Go Go.RowKit
set_option maxRecDepth 100000
def okL (room : Int) (l : List Cmd) (sent pad : Int) : Bool:=decide (8 ≤ room ∧ room ≤ 48 ∧ 0 ≤ pad ∧ pad ≤ 2 ∧ 0 ≤ sent) && l.all z9 && (match l with | []=>decide (sent = 0) | c :: _=>decide (sent < xk c ∧ (qs l : Int) - sent ≤ room))
theorem zd1 {room sent pad : Int} : okL room [] sent pad = true ↔ (8 ≤ room ∧ room ≤ 48 ∧ 0 ≤ pad ∧ pad ≤ 2 ∧ 0 ≤ sent) ∧ sent = 0:=by simp [okL]
theorem zcs {room sent pad : Int} {c : Cmd} {l : List Cmd} : okL room (c :: l) sent pad = true ↔ (8 ≤ room ∧ room ≤ 48 ∧ 0 ≤ pad ∧ pad ≤ 2 ∧ 0 ≤ sent) ∧ (c :: l).all z9 = true ∧ sent < xk c ∧ (qs (c :: l) : Int) - sent ≤ room:=by simp only [okL,Bool.and_eq_true,decide_eq_true_eq]; exact and_assoc
theorem znz {room sent pad : Int} {l : List Cmd} (h : ¬ (8 ≤ room ∧ room ≤ 48 ∧ 0 ≤ pad ∧ pad ≤ 2 ∧ 0 ≤ sent)) : okL room l sent pad = false:=by simp only [okL,decide_eq_false h,Bool.false_and]
theorem zvm {room sent pad : Int} {l : List Cmd} (h : l.all z9 = false) : okL room l sent pad = false:=by simp only [okL,h,Bool.and_false,Bool.false_and]
theorem zr1 (p : Cmd → Bool) (l : List Cmd) (k : Nat) (h : k < l.length) : (l.take (k + 1)).all p = ((l.take k).all p && p l[k]):=by
 rw [List.take_succ_eq_append_getElem h,List.all_append]; simp
theorem z3y {p : Cmd → Bool} {l : List Cmd} {k : Nat} (h : k < l.length) (e : p l[k] = false) : l.all p = false:=by
 rw [Bool.eq_false_iff]; intro e2
 rw [List.all_eq_true] at e2
 rw [e2 _ (List.getElem_mem h)] at e; cases e
def ja (l : List Cmd) : List UInt8:=l.flatMap fun c=>(xm c).1
theorem jt (l : List Cmd) : (ja l).length = qs l:=by
 induction l with
 |nil=>rfl
 |cons c l ih=>simp only [ja,List.flatMap_cons,List.length_append,qs,List.map_cons,List.sum_cons] at ih ⊢; rw [ih]; rfl
theorem zhs (l : List Cmd) (k : Nat) (h : k < l.length) : ja (l.take (k + 1)) = ja (l.take k) ++ (xm l[k]).1:=by
 rw [ja,ja,List.take_succ_eq_append_getElem h,List.flatMap_append]; simp
theorem zo9 (c : Cmd) (l : List Cmd) : ja (c :: l) = (xm c).1 ++ ja l:=rfl
theorem zjd (a b : List Cmd) : ja (a ++ b) = ja a ++ ja b:=by simp [ja]
theorem zjc (c : Cmd) : ja [c] = (xm c).1:=by simp [ja]
theorem zi8 (c : Cmd) (l : List Cmd) : qs (c :: l) = xk c + qs l:=by simp [qs]
theorem zj_ {c : Cmd} (h : z9 c = true) : 1 ≤ xk c:=by
 rw [xk,xm,if_pos h]; exact (zba h).1
theorem qv {room sent pad : Int} {l : List Cmd} (h : okL room l sent pad = true) : (8 ≤ room ∧ room ≤ 48 ∧ 0 ≤ pad ∧ pad ≤ 2 ∧ 0 ≤ sent) ∧ l.all z9 = true ∧ sent ≤ qs l ∧ (qs l : Int) - sent ≤ room:=by
 cases l with
 |nil=>have:=zd1.1 h; refine ⟨this.1,rfl, ?_, ?_⟩ <;> simp [qs] <;> omega
 |cons c l=>have:=zcs.1 h; have e:=zi8 c l; exact ⟨this.1,this.2.1,by omega,this.2.2.2⟩
def zj1 (room : Int) (l : List Cmd) (sent pad : Int) : List UInt8:=if okL room l sent pad = true then (ja l).drop sent.toNat else []
def x4 : List Cmd → Nat → Int → Int → List UInt8 × List Cmd × Nat × Int
 |[],s,p,_=>([],[],s,p)
 |c :: l,s,p,g=>if p ≠ 0 ∨ g ≤ 0 then ([],c :: l,s,p) else
  if g < ((xk c - s : Nat) : Int) then (((xm c).1.drop s).take g.toNat,c :: l,s + g.toNat,p)
  else (((xm c).1.drop s) ++ (x4 l 0 (zbj c) (g - ((xk c - s : Nat) : Int))).1,(x4 l 0 (zbj c) (g - ((xk c - s : Nat) : Int))).2)
theorem ve {l : List Cmd} {s : Nat} {p g : Int} (h : l = [] ∨ p ≠ 0 ∨ g ≤ 0) : x4 l s p g = ([],l,s,p):=by
 cases l with
 |nil=>rfl
 |cons c l=>rw [x4,if_pos (by rcases h with h | h; cases h; exact h)]
theorem y7 {c : Cmd} {l : List Cmd} {s : Nat} {g : Int} (h : 0 < g) (h2 : g < ((xk c - s : Nat) : Int)) : x4 (c :: l) s 0 g = (((xm c).1.drop s).take g.toNat,c :: l,s + g.toNat,0):=by
 rw [x4,if_neg (by omega),if_pos h2]
theorem vy {c : Cmd} {l : List Cmd} {s : Nat} {g : Int} (h : 0 < g) (h2 : ((xk c - s : Nat) : Int) ≤ g) : x4 (c :: l) s 0 g = (((xm c).1.drop s) ++ (x4 l 0 (zbj c) (g - ((xk c - s : Nat) : Int))).1,(x4 l 0 (zbj c) (g - ((xk c - s : Nat) : Int))).2):=by
 rw [x4,if_neg (by omega),if_neg (by omega)]
theorem zsc {c : Cmd} {l : List Cmd} {s : Nat} {g : Int} (h : 0 < g) (h2 : s < xk c) :
  x4 (c :: l) s 0 g = if s + 1 = xk c then ((((xm c).1.drop s).take 1) ++ (x4 l 0 (zbj c) (g - 1)).1,(x4 l 0 (zbj c) (g - 1)).2) else ((((xm c).1.drop s).take 1) ++ (x4 (c :: l) (s + 1) 0 (g - 1)).1,(x4 (c :: l) (s + 1) 0 (g - 1)).2):=by
 have hl : (xm c).1.length = xk c:=rfl
 split
 ·rename_i e
  have hs : xk c - s = 1:=by omega
  rw [vy h (by omega),hs,List.take_of_length_le (by rw [List.length_drop]; omega)]
  rfl
 ·rename_i e
  have h3 : (xm c).1.drop s = ((xm c).1.drop s).take 1 ++ (xm c).1.drop (s + 1):=by
   rw [← List.drop_drop,List.take_append_drop]
  by_cases hw : ((xk c - s : Nat) : Int) ≤ g
  ·rw [vy h hw,vy (s:=s + 1) (by omega) (by omega)]
   rw [show g - 1 - ((xk c - (s + 1) : Nat) : Int) = g - ((xk c - s : Nat) : Int) by omega]
   conv=>lhs; rw [h3]
   rw [List.append_assoc]
  ·rw [y7 h (by omega)]
   by_cases h1 : g = 1
   ·rw [h1,ve (g:=1 - 1) (.inr (.inr (by decide)))]; simp
   ·rw [y7 (s:=s + 1) (by omega) (by omega)]
    obtain ⟨n,rfl⟩:=Int.eq_ofNat_of_zero_le (show 0 ≤ g by omega)
    have e4 : ((n : Int) - 1).toNat = n - 1:=by omega
    obtain ⟨m,rfl⟩ : ∃ m,n = m + 1:=⟨n - 1,by omega⟩
    simp only [e4,Int.toNat_natCast,Nat.add_sub_cancel,Prod.mk.injEq,true_and,and_true]
    refine ⟨?_,by omega⟩
    conv=>lhs; rw [h3]
    have h4 : (((xm c).1.drop s).take 1).length = 1:=by rw [List.length_take,List.length_drop]; omega
    rw [List.take_append,h4,List.take_of_length_le (l:=((xm c).1.drop s).take 1) (by omega)]
    simp
def okS (l : List Cmd) (s : Nat) : Prop:=l.all z9 = true ∧ (l = [] → s = 0) ∧ ∀ c r,l = c :: r → s < xk c
theorem zej {room sent pad : Int} {l : List Cmd} (h : okL room l sent pad = true) : okS l sent.toNat:=by
 cases l with
 |nil=>have:=zd1.1 h; exact ⟨rfl,fun _=>by omega,fun c r e=>by cases e⟩
 |cons c l=>have:=zcs.1 h; exact ⟨this.2.1,fun e=>by (cases e),fun d r e=>by injection e with e1 e2; subst e1; omega⟩
theorem zvl {room pad : Int} {s : Nat} {l : List Cmd} (h : okS l s) (h1 : 8 ≤ room ∧ room ≤ 48 ∧ 0 ≤ pad ∧ pad ≤ 2) (h2 : (qs l : Int) - s ≤ room) : okL room l s pad = true:=by
 cases l with
 |nil=>exact zd1.2 ⟨by omega,by have:=h.2.1 rfl; omega⟩
 |cons c l=>exact zcs.2 ⟨by omega,h.1,by have:=h.2.2 c l rfl; omega,h2⟩
theorem zj5 {c : Cmd} {l : List Cmd} {s : Nat} (h : okS (c :: l) s) : okS l 0:=by
 have h1:=h.1
 simp only [List.all_cons,Bool.and_eq_true] at h1
 refine ⟨h1.2,fun _=>rfl,fun d r e => ?_⟩
 subst e
 have h2:=h1.2
 simp only [List.all_cons,Bool.and_eq_true] at h2
 exact zj_ h2.1
theorem zhk {c : Cmd} {l : List Cmd} {s : Nat} (h : s ≤ xk c) : (ja (c :: l)).drop s = (xm c).1.drop s ++ ja l:=by
 rw [zo9,List.drop_append_of_le_length h]
theorem zd0 (c : Cmd) : (0 : Int) ≤ zbj c ∧ (zbj c : Int) ≤ 2:=by have:=zvj c; omega
theorem zjt : ∀ (l : List Cmd) (s : Nat) (p g : Int),okS l s → 0 ≤ p → p ≤ 2 →
  okS (x4 l s p g).2.1 (x4 l s p g).2.2.1 ∧ (0 ≤ (x4 l s p g).2.2.2 ∧ (x4 l s p g).2.2.2 ≤ 2) ∧ (x4 l s p g).1 ++ (ja (x4 l s p g).2.1).drop (x4 l s p g).2.2.1 = (ja l).drop s
   ∧ ((x4 l s p g).1.length : Int) ≤ max g 0 ∧ ((x4 l s p g).1 ≠ [] → p = 0) ∧ (((x4 l s p g).1.length : Int) < g → p = 0 → (x4 l s p g).2.2.2 = 0 → (x4 l s p g).2.1 = [])
   ∧ (∃ k,(x4 l s p g).2.1 = l.drop k ∧ k ≤ l.length)
 |[],s,p,g,h,h0,h1=>by
  rw [ve (.inl rfl)]
  exact ⟨h,⟨h0,h1⟩,by simp,by simp; omega,fun e=>absurd rfl e,fun _ _ _=>rfl,0,rfl,by simp⟩
 |c :: l,s,p,g,h,h0,h1=>by
  by_cases hs : p ≠ 0 ∨ g ≤ 0
  ·rw [ve (.inr hs)]
   exact ⟨h,⟨h0,h1⟩,by simp,by simp; omega,fun e=>absurd rfl e,fun e1 e2 _=>by simp at e1; omega,0,rfl,by simp⟩
  ·have hp : p = 0:=by omega
   subst hp
   have hlt:=h.2.2 c l rfl
   have hlen : (xm c).1.length = xk c:=rfl
   by_cases hw : g < ((xk c - s : Nat) : Int)
   ·rw [y7 (by omega) hw]
    refine ⟨⟨h.1,(fun e=>nomatch e),(fun d r e => ?_)⟩,⟨h0,h1⟩, ?_, ?_,(fun _=>rfl), ?_,0,rfl,by simp⟩
    ·simp only at e; injection e with e1 e2; subst e1; simp only; omega
    ·simp only
     rw [zhk (by omega),zhk (by omega),← List.append_assoc,← List.drop_drop,List.take_append_drop]
    ·simp only [List.length_take,List.length_drop]; omega
    ·simp only [List.length_take,List.length_drop]; omega
   ·rw [vy (by omega) (by omega)]
    obtain ⟨a1,a2,a3,a4,a5,a6,k,a7,a8⟩:=zjt l 0 (zbj c) (g - ((xk c - s : Nat) : Int)) (zj5 h) (zd0 c).1 (zd0 c).2
    refine ⟨a1,a2, ?_, ?_,fun _=>rfl, ?_,k + 1, ?_,by simp; omega⟩
    ·simp only
     rw [List.append_assoc,a3,zhk (by omega)]; rfl
    ·simp only [List.length_append,List.length_drop]; omega
    ·simp only [List.length_append,List.length_drop]
     intro e1 _ e3
     by_cases hq : (zbj c : Int) = 0
     ·exact a6 (by omega) hq e3
     ·rw [ve (.inr (.inl hq))] at e3 ⊢
      exact absurd e3 hq
    ·simpa using a7
end Go.Proofs.YtgfmjmfphmjdkaaGreatDoor
namespace Go.Proofs.YtgfmjmfphmjdkaaGreatDoor
set_option maxHeartbeats 4000000
open Go Go.RowKit
set_option maxRecDepth 100000
theorem zbq : Tryz.prog.underlying 47 = some (.struct #[{ name := "Room",type:=3,offset:=0,embedded:=false,tag := "",pkgPath := "",byteOffset:=0 },{ name := "L",type:=45,offset:=1,embedded:=false,tag := "",pkgPath := "",byteOffset:=8 },{ name := "Sent",type:=3,offset:=2,embedded:=false,tag := "",pkgPath := "",byteOffset:=32 },{ name := "Pad",type:=3,offset:=3,embedded:=false,tag := "",pkgPath := "",byteOffset:=40 },{ name := "Off",type:=4,offset:=4,embedded:=false,tag := "",pkgPath := "",byteOffset:=48 }]):=Tryz.underlying47
abbrev x_ (room : Int) (l : List Cmd) (sent pad : Int) (off : Bool) : AV:=z0 [I room,slA ws l,I sent,I pad,B off]
instance qgd : StC 47 [I 0,vA (.slice none 0 0),I 0,I 0,B false] [(0,1),(1,1),(2,1),(3,1),(4,1)]:=⟨StT.mk' _ [.int .i64 0,.slice none 0 0,.int .i64 0,.int .i64 0,.bool false] zbq (by kernel_rfl) (by kernel_rfl)⟩
instance qe_ : FldC 47 0 0 3:=⟨_,_,zbq,rfl,rfl,rfl⟩
instance qe9 : FldC 47 1 1 45:=⟨_,_,zbq,rfl,rfl,rfl⟩
instance qe8 : FldC 47 2 2 3:=⟨_,_,zbq,rfl,rfl,rfl⟩
instance qe7 : FldC 47 3 3 3:=⟨_,_,zbq,rfl,rfl,rfl⟩
instance qe6 : FldC 47 4 4 4:=⟨_,_,zbq,rfl,rfl,rfl⟩
instance qg3 : AggC 47 true:=⟨ku (by kernel_rfl)⟩
instance qf6 : SzC 47 5:=⟨xc (by kernel_rfl)⟩
instance qgh : SpC 47:=⟨jo (n:=4) (by kernel_rfl)⟩
instance qgy : AlC 47 (.agg #[.int .i64 0,.slice none 0 0,.int .i64 0,.int .i64 0,.bool false]) [.int .i64 0,.slice none 0 0,.int .i64 0,.int .i64 0,.bool false] [I 0,vA (.slice none 0 0),I 0,I 0,B false]:=⟨by kernel_rfl,rfl,rfl⟩
instance qew : SpC 45:=⟨jo (n:=0) (by kernel_rfl)⟩
end Go.Proofs.YtgfmjmfphmjdkaaGreatDoor
