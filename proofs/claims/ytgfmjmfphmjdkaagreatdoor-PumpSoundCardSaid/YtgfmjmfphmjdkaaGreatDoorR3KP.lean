/- Layer 9 (link), plainly. No condition. -/
import Derived.Test.YtgfmjmfphmjdkaaGreatDoorR3ZV
set_option linter.unusedSimpArgs false
set_option linter.unusedVariables false
set_option linter.unusedSectionVars false
namespace Go.Proofs.YtgfmjmfphmjdkaaGreatDoor
set_option maxHeartbeats 4000000
open Go Go.RowKit
set_option maxRecDepth 100000
def okL (room : Int) (l : List Cmd) (sent pad : Int) : Bool:=decide (8 ≤ room ∧ room ≤ 48 ∧ 0 ≤ pad ∧ pad ≤ 2 ∧ 0 ≤ sent) && l.all z9 && (match l with | []=>decide (sent = 0) | c :: _=>decide (sent < jb c ∧ (qr l : Int) - sent ≤ room))
theorem zb1 {room sent pad : Int} : okL room [] sent pad = true ↔ (8 ≤ room ∧ room ≤ 48 ∧ 0 ≤ pad ∧ pad ≤ 2 ∧ 0 ≤ sent) ∧ sent = 0:=by simp [okL]
theorem za9 {room sent pad : Int} {c : Cmd} {l : List Cmd} : okL room (c :: l) sent pad = true ↔ (8 ≤ room ∧ room ≤ 48 ∧ 0 ≤ pad ∧ pad ≤ 2 ∧ 0 ≤ sent) ∧ (c :: l).all z9 = true ∧ sent < jb c ∧ (qr (c :: l) : Int) - sent ≤ room:=by simp only [okL,Bool.and_eq_true,decide_eq_true_eq]; exact and_assoc
theorem ztu {room sent pad : Int} {l : List Cmd} (h : ¬ (8 ≤ room ∧ room ≤ 48 ∧ 0 ≤ pad ∧ pad ≤ 2 ∧ 0 ≤ sent)) : okL room l sent pad = false:=by simp only [okL,decide_eq_false h,Bool.false_and]
theorem z3o {room sent pad : Int} {l : List Cmd} (h : l.all z9 = false) : okL room l sent pad = false:=by simp only [okL,h,Bool.and_false,Bool.false_and]
theorem z1b (p : Cmd → Bool) (l : List Cmd) (k : Nat) (h : k < l.length) : (l.take (k + 1)).all p = ((l.take k).all p && p l[k]):=by
 rw [List.take_succ_eq_append_getElem h,List.all_append]; simp
theorem z83 {p : Cmd → Bool} {l : List Cmd} {k : Nat} (h : k < l.length) (e : p l[k] = false) : l.all p = false:=by
 rw [Bool.eq_false_iff]; intro e2
 rw [List.all_eq_true] at e2
 rw [e2 _ (List.getElem_mem h)] at e; cases e
def qo (l : List Cmd) : List UInt8:=l.flatMap fun c=>(jt c).1
theorem jf (l : List Cmd) : (qo l).length = qr l:=by
 induction l with
 |nil=>rfl
 |cons c l ih=>simp only [qo,List.flatMap_cons,List.length_append,qr,List.map_cons,List.sum_cons] at ih ⊢; rw [ih]; rfl
theorem zn2 (l : List Cmd) (k : Nat) (h : k < l.length) : qo (l.take (k + 1)) = qo (l.take k) ++ (jt l[k]).1:=by
 rw [qo,qo,List.take_succ_eq_append_getElem h,List.flatMap_append]; simp
theorem w9 (c : Cmd) (l : List Cmd) : qo (c :: l) = (jt c).1 ++ qo l:=rfl
theorem wr (a b : List Cmd) : qo (a ++ b) = qo a ++ qo b:=by simp [qo]
theorem zr1 (c : Cmd) : qo [c] = (jt c).1:=by simp [qo]
theorem uh (c : Cmd) (l : List Cmd) : qr (c :: l) = jb c + qr l:=by simp [qr]
theorem zfi {c : Cmd} (h : z9 c = true) : 1 ≤ jb c:=by
 rw [jb,jt,if_pos h]; exact (zbj h).1
theorem zv {room sent pad : Int} {l : List Cmd} (h : okL room l sent pad = true) : (8 ≤ room ∧ room ≤ 48 ∧ 0 ≤ pad ∧ pad ≤ 2 ∧ 0 ≤ sent) ∧ l.all z9 = true ∧ sent ≤ qr l ∧ (qr l : Int) - sent ≤ room:=by
 cases l with
 |nil=>have:=zb1.1 h; refine ⟨this.1,rfl, ?_, ?_⟩ <;> simp [qr] <;> omega
 |cons c l=>have:=za9.1 h; have e:=uh c l; exact ⟨this.1,this.2.1,by omega,this.2.2.2⟩
def ztj (room : Int) (l : List Cmd) (sent pad : Int) : List UInt8:=if okL room l sent pad = true then (qo l).drop sent.toNat else []
def xt : List Cmd → Nat → Int → Int → List UInt8 × List Cmd × Nat × Int
 |[],s,p,_=>([],[],s,p)
 |c :: l,s,p,g=>if p ≠ 0 ∨ g ≤ 0 then ([],c :: l,s,p) else
  if g < ((jb c - s : Nat) : Int) then (((jt c).1.drop s).take g.toNat,c :: l,s + g.toNat,p)
  else (((jt c).1.drop s) ++ (xt l 0 (zcl c) (g - ((jb c - s : Nat) : Int))).1,(xt l 0 (zcl c) (g - ((jb c - s : Nat) : Int))).2)
theorem jz {l : List Cmd} {s : Nat} {p g : Int} (h : l = [] ∨ p ≠ 0 ∨ g ≤ 0) : xt l s p g = ([],l,s,p):=by
 cases l with
 |nil=>rfl
 |cons c l=>rw [xt,if_pos (by rcases h with h | h; cases h; exact h)]
theorem za7 {c : Cmd} {l : List Cmd} {s : Nat} {g : Int} (h : 0 < g) (h2 : g < ((jb c - s : Nat) : Int)) : xt (c :: l) s 0 g = (((jt c).1.drop s).take g.toNat,c :: l,s + g.toNat,0):=by
 rw [xt,if_neg (by omega),if_pos h2]
theorem uq {c : Cmd} {l : List Cmd} {s : Nat} {g : Int} (h : 0 < g) (h2 : ((jb c - s : Nat) : Int) ≤ g) : xt (c :: l) s 0 g = (((jt c).1.drop s) ++ (xt l 0 (zcl c) (g - ((jb c - s : Nat) : Int))).1,(xt l 0 (zcl c) (g - ((jb c - s : Nat) : Int))).2):=by
 rw [xt,if_neg (by omega),if_neg (by omega)]
def okS (l : List Cmd) (s : Nat) : Prop:=l.all z9 = true ∧ (l = [] → s = 0) ∧ ∀ c r,l = c :: r → s < jb c
theorem zab {room sent pad : Int} {l : List Cmd} (h : okL room l sent pad = true) : okS l sent.toNat:=by
 cases l with
 |nil=>have:=zb1.1 h; exact ⟨rfl,fun _=>by omega,fun c r e=>by cases e⟩
 |cons c l=>have:=za9.1 h; exact ⟨this.2.1,fun e=>by (cases e),fun d r e=>by injection e with e1 e2; subst e1; omega⟩
theorem ztv {room pad : Int} {s : Nat} {l : List Cmd} (h : okS l s) (h1 : 8 ≤ room ∧ room ≤ 48 ∧ 0 ≤ pad ∧ pad ≤ 2) (h2 : (qr l : Int) - s ≤ room) : okL room l s pad = true:=by
 cases l with
 |nil=>exact zb1.2 ⟨by omega,by have:=h.2.1 rfl; omega⟩
 |cons c l=>exact za9.2 ⟨by omega,h.1,by have:=h.2.2 c l rfl; omega,h2⟩
theorem zoz {c : Cmd} {l : List Cmd} {s : Nat} (h : okS (c :: l) s) : okS l 0:=by
 have h1:=h.1
 simp only [List.all_cons,Bool.and_eq_true] at h1
 refine ⟨h1.2,fun _=>rfl,fun d r e => ?_⟩
 subst e
 have h2:=h1.2
 simp only [List.all_cons,Bool.and_eq_true] at h2
 exact zfi h2.1
theorem zhc {c : Cmd} {l : List Cmd} {s : Nat} (h : s ≤ jb c) : (qo (c :: l)).drop s = (jt c).1.drop s ++ qo l:=by
 rw [w9,List.drop_append_of_le_length h]
theorem zjn (c : Cmd) : (0 : Int) ≤ zcl c ∧ (zcl c : Int) ≤ 2:=by have:=ztt c; omega
theorem zji : ∀ (l : List Cmd) (s : Nat) (p g : Int),okS l s → 0 ≤ p → p ≤ 2 →
  okS (xt l s p g).2.1 (xt l s p g).2.2.1 ∧ (0 ≤ (xt l s p g).2.2.2 ∧ (xt l s p g).2.2.2 ≤ 2) ∧ (xt l s p g).1 ++ (qo (xt l s p g).2.1).drop (xt l s p g).2.2.1 = (qo l).drop s
   ∧ ((xt l s p g).1.length : Int) ≤ max g 0 ∧ ((xt l s p g).1 ≠ [] → p = 0) ∧ (((xt l s p g).1.length : Int) < g → p = 0 → (xt l s p g).2.2.2 = 0 → (xt l s p g).2.1 = [])
   ∧ (∃ k,(xt l s p g).2.1 = l.drop k ∧ k ≤ l.length)
 |[],s,p,g,h,h0,h1=>by
  rw [jz (.inl rfl)]
  exact ⟨h,⟨h0,h1⟩,by simp,by simp; omega,fun e=>absurd rfl e,fun _ _ _=>rfl,0,rfl,by simp⟩
 |c :: l,s,p,g,h,h0,h1=>by
  by_cases hs : p ≠ 0 ∨ g ≤ 0
  ·rw [jz (.inr hs)]
   exact ⟨h,⟨h0,h1⟩,by simp,by simp; omega,fun e=>absurd rfl e,fun e1 e2 _=>by simp at e1; omega,0,rfl,by simp⟩
  ·have hp : p = 0:=by omega
   subst hp
   have hlt:=h.2.2 c l rfl
   have hlen : (jt c).1.length = jb c:=rfl
   by_cases hw : g < ((jb c - s : Nat) : Int)
   ·rw [za7 (by omega) hw]
    refine ⟨⟨h.1,(fun e=>nomatch e),(fun d r e => ?_)⟩,⟨h0,h1⟩, ?_, ?_,(fun _=>rfl), ?_,0,rfl,by simp⟩
    ·simp only at e; injection e with e1 e2; subst e1; simp only; omega
    ·simp only
     rw [zhc (by omega),zhc (by omega),← List.append_assoc,← List.drop_drop,List.take_append_drop]
    ·simp only [List.length_take,List.length_drop]; omega
    ·simp only [List.length_take,List.length_drop]; omega
   ·rw [uq (by omega) (by omega)]
    obtain ⟨a1,a2,a3,a4,a5,a6,k,a7,a8⟩:=zji l 0 (zcl c) (g - ((jb c - s : Nat) : Int)) (zoz h) (zjn c).1 (zjn c).2
    refine ⟨a1,a2, ?_, ?_,fun _=>rfl, ?_,k + 1, ?_,by simp; omega⟩
    ·simp only
     rw [List.append_assoc,a3,zhc (by omega)]; rfl
    ·simp only [List.length_append,List.length_drop]; omega
    ·simp only [List.length_append,List.length_drop]
     intro e1 _ e3
     by_cases hq : (zcl c : Int) = 0
     ·exact a6 (by omega) hq e3
     ·rw [jz (.inr (.inl hq))] at e3 ⊢
      exact absurd e3 hq
    ·simpa using a7
end Go.Proofs.YtgfmjmfphmjdkaaGreatDoor
namespace Go.Proofs.YtgfmjmfphmjdkaaGreatDoor
set_option maxHeartbeats 4000000
open Go Go.RowKit
set_option maxRecDepth 100000
theorem zby : Tryz.prog.underlying 47 = some (.struct #[{ name := "Room",type:=3,offset:=0,embedded:=false,tag := "",pkgPath := "",byteOffset:=0 },{ name := "L",type:=45,offset:=1,embedded:=false,tag := "",pkgPath := "",byteOffset:=8 },{ name := "Sent",type:=3,offset:=2,embedded:=false,tag := "",pkgPath := "",byteOffset:=32 },{ name := "Pad",type:=3,offset:=3,embedded:=false,tag := "",pkgPath := "",byteOffset:=40 },{ name := "Off",type:=4,offset:=4,embedded:=false,tag := "",pkgPath := "",byteOffset:=48 }]):=Tryz.underlying47
abbrev kp (room : Int) (l : List Cmd) (sent pad : Int) (off : Bool) : AV:=qb [I room,slA zc7 l,I sent,I pad,B off]
instance qfi : StC 47 [I 0,vA (.slice none 0 0),I 0,I 0,B false] [(0,1),(1,1),(2,1),(3,1),(4,1)]:=⟨StT.mk' _ [.int .i64 0,.slice none 0 0,.int .i64 0,.int .i64 0,.bool false] zby (by kernel_rfl) (by kernel_rfl)⟩
instance qed : FldC 47 0 0 3:=⟨_,_,zby,rfl,rfl,rfl⟩
instance qec : FldC 47 1 1 45:=⟨_,_,zby,rfl,rfl,rfl⟩
instance qeb : FldC 47 2 2 3:=⟨_,_,zby,rfl,rfl,rfl⟩
instance qea : FldC 47 3 3 3:=⟨_,_,zby,rfl,rfl,rfl⟩
instance qd_ : FldC 47 4 4 4:=⟨_,_,zby,rfl,rfl,rfl⟩
instance qf8 : AggC 47 true:=⟨kf (by kernel_rfl)⟩
instance qfa : SzC 47 5:=⟨xg (by kernel_rfl)⟩
instance qfm : SpC 47:=⟨jn (n:=4) (by kernel_rfl)⟩
instance qf3 : AlC 47 (.agg #[.int .i64 0,.slice none 0 0,.int .i64 0,.int .i64 0,.bool false]) [.int .i64 0,.slice none 0 0,.int .i64 0,.int .i64 0,.bool false] [I 0,vA (.slice none 0 0),I 0,I 0,B false]:=⟨by kernel_rfl,rfl,rfl⟩
instance qd0 : SpC 45:=⟨jn (n:=0) (by kernel_rfl)⟩
end Go.Proofs.YtgfmjmfphmjdkaaGreatDoor
