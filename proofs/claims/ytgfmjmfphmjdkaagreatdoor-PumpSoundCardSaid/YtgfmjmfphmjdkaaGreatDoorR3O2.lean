/- Layer 28 (motion): the moves, as an iterator, by the program. No condition. -/
import Derived.Test.YtgfmjmfphmjdkaaGreatDoorR3B1
import Derived.Test.YtgfmjmfphmjdkaaGreatDoorR3H1
set_option linter.unusedSimpArgs false
set_option linter.unusedVariables false
set_option linter.unusedSectionVars false
namespace Go.Proofs.YtgfmjmfphmjdkaaGreatDoor
set_option maxHeartbeats 4000000
open Go Go.RowKit
variable {T0 : Gh} [TabS T0]
attribute [local irreducible] zz zg AW AL AO QY qh z_ rsA Opd xh vA gvA zy qb slA jl ipA rpA EqK LnK IxK LdK FaK FdK
set_option maxRecDepth 100000
theorem zb7 (w h : Int) (l : List zj) (x y : Int) (b s : Bool) (X Y : Int) : AF Tryz.prog T0 108 [zad w h l x y b s,I X,I Y] [] (fun A M' => ∃ b3 b4 b5,A = fnA 145 [bx b4,bx b3,bx b5] ∧ M' = [qh b5 3 [I Y],qh b4 3 [I X],qh b3 24 [I w,I h,slA guT l,I x,I y,B b,B s]]):=by
 refine za Tryz.func108 rfl (by decide) Tryz.ntmps108 rfl ?_
 repeat' (first
 |refine qba ?_ | (refine zd ?_ ?_ <;> intro hb <;> try exact no_) | (refine sx_ ?_ <;> intro bb) | (refine su_ ?_ <;> intro u hu1 hu2) | fail)
 all_goals first | exact ⟨_,_,rl_,List.Sublist.refl _,_,_,_,rfl,rfl⟩ | skip
def zxh (L : List (Bool × Cmd)) (k : Nat) : List Cmd:=((L.take k).filter (·.1)).map (·.2)
def z3i (L : List (Bool × Cmd)) (k : Nat) : List Cmd:=((L.drop k).filter (·.1)).map (·.2)
theorem z_c {L : List (Bool × Cmd)} {k : Nat} {c : Cmd} (h : L[k]? = some (true,c)) : zxh L (k + 1) = zxh L k ++ [c]:=by
 unfold zxh; rw [List.take_add_one,h]; simp
theorem z_d {L : List (Bool × Cmd)} {k : Nat} {c : Cmd} (h : L[k]? = some (false,c)) : zxh L (k + 1) = zxh L k:=by
 unfold zxh; rw [List.take_add_one,h]; simp
theorem z25 {L : List (Bool × Cmd)} {k : Nat} {c : Cmd} (h : L[k]? = some (true,c)) : zxh L k ++ c :: z3i L (k + 1) = (L.filter (·.1)).map (·.2):=by
 obtain ⟨hk,he⟩:=List.getElem?_eq_some_iff.1 h
 have h2 : L = L.take k ++ (true,c) :: L.drop (k + 1):=by
  rw [← he,← List.drop_eq_getElem_cons hk,List.take_append_drop]
 conv=>rhs; rw [h2]
 unfold zxh z3i
 simp
theorem z2s (w h : Int) (l : List zj) (x y : Int) (b s : Bool) (X Y : Int) (b3 b4 b5 : Nat) (hh : -1000 ≤ h ∧ h ≤ 1000) (hx : -1000 ≤ x ∧ x ≤ 1000) (hy : -1000 ≤ y ∧ y ≤ 1000) (hX : -1000 ≤ X ∧ X ≤ 1000) (hY : -1000 ≤ Y ∧ Y ≤ 1000) :
  IterC Tryz.prog 145 [bx b4,bx b3,bx b5] [qh b5 3 [I Y],qh b4 3 [I X],qh b3 24 [I w,I h,slA guT l,I x,I y,B b,B s]] yw (vx h x y X Y):=by
 refine zpc Tryz.func145 rfl (by decide) Tryz.ntmps145 rfl rfl fun T1 lo Z V hZ => ?_
 simp only [List.cons_append,List.nil_append]
 refine zes ?_
 repeat' (first
 |refine sa_ ?_
  |refine jd ?_ (hy:=by first | (apply kh rfl; exact oo_; exact v1_ (List.Mem.head _) rfl)
                                |(apply kh rfl; exact oo_; exact v1_ (List.Mem.tail _ (List.Mem.head _)) rfl)
                                |(apply kh rfl; exact oo_; exact v1_ (List.Mem.tail _ (List.Mem.tail _ (List.Mem.head _))) rfl)
                                |(apply kh rfl; exact ql; exact v1_ (List.Mem.head _) rfl)
                                |(apply kh rfl; exact ql; exact v1_ (List.Mem.tail _ (List.Mem.head _)) rfl)
                                |(apply kh rfl; exact ql; exact v1_ (List.Mem.tail _ (List.Mem.tail _ (List.Mem.head _))) rfl)
                                |(apply zn rfl; exact oo_; exact oo_)
                                |exact AY.sub (qa (T:=moT) [(_,_,_,_,_),(_,_,_,_,_),(_,_,_,_,_),(_,_,_,_,_),(_,_,_,_,_),(_,_,_,_,_),(_,_,_,_,_),(_,_,_,_,_)] rfl un_ el_ rfl (by decide) ⟨_,px_,rfl⟩) jc | fail)
 |refine j0 ?_
  |refine qj ?_ (hy:=by intro hk hk2; first | (apply kh rfl; exact oo_; exact v1_ (List.Mem.head _) rfl)
                                              |(apply kh rfl; exact oo_; exact v1_ (List.Mem.tail _ (List.Mem.head _)) rfl)
                                              |(apply kh rfl; exact oo_; exact v1_ (List.Mem.tail _ (List.Mem.tail _ (List.Mem.head _))) rfl)
                                              |(apply kh rfl; exact ql; exact v1_ (List.Mem.head _) rfl)
                                              |(apply kh rfl; exact ql; exact v1_ (List.Mem.tail _ (List.Mem.head _)) rfl)
                                              |(apply kh rfl; exact ql; exact v1_ (List.Mem.tail _ (List.Mem.tail _ (List.Mem.head _))) rfl)
                                              |(apply zn rfl; exact oo_; exact oo_)
                                              |exact AY.sub (qa (T:=moT) [(_,_,_,_,_),(_,_,_,_,_),(_,_,_,_,_),(_,_,_,_,_),(_,_,_,_,_),(_,_,_,_,_),(_,_,_,_,_),(_,_,_,_,_)] rfl un_ el_ rfl (by decide) ⟨_,px_,rfl⟩) jc | fail)
 |refine sw_ ?_ | (refine zd ?_ ?_ <;> intro hb <;> try exact no_) | (refine sx_ ?_ <;> intro bb) | (refine su_ ?_ <;> intro u hu1 hu2) | fail)
 obtain ⟨L,hL⟩ : ∃ L,L = moL h x y X Y:=⟨_,rfl⟩
 have h8 : L.length = 8:=by rw [hL]; rfl
 have hM : vx h x y X Y = zxh L 8:=by rw [hL]; rfl
 have hfull : (L.filter (·.1)).map (·.2) = vx h x y X Y:=by rw [hL]; rfl
 refine ze6 (fun k : Nat=>[(0,yA lo),(1,bx b4),(2,bx b3),(3,bx b5),(116,slA moT L),(117,I (8 : Nat)),(118,I k)]) (fun k=>[qh b5 3 [I Y],qh b4 3 [I X],qh b3 24 [I w,I h,slA guT l,I x,I y,B b,B s]] ++ Z (zxh L k)) (fun k=>k ≤ 8) (fun k=>8 - k) 0 (Nat.zero_le _) (by subst hL; exact wk_) (List.Sublist.refl _) ?_
 rintro k h1
 simp only [List.cons_append,List.nil_append]
 rw [hM]
 rw [hM] at hfull hZ
 by_cases hlt : k < 8
 ·obtain ⟨⟨is,c1,c2,c3,c4⟩,hat⟩ : ∃ z,L[k]? = some z:=⟨_,List.getElem?_eq_getElem (by omega)⟩
  cases is with
  |false =>
   have hp:=z_d hat
   repeat' (first
   |(refine zxw ?_ (hU:=UpdF.here); dsimp only) | refine jd ?_ (hy:=zw1 (b:=false) (d:=false) rfl (by exact oo_) (fun h=>by cases h)) | refine zes ?_ | refine ws ?_ | refine zi2 ?_ | refine z5p ?_ | refine z5q ?_ | refine z5o ?_ | refine z5v ?_ | refine z5w rfl ?_ | refine zq8 rfl ?_ | refine z5u ?_ | refine zbn ?_ | refine zd7 ?_ | refine zi1 ?_ | refine zd6 ?_ | (apply zw (by rfl) (by kernel_rfl) (by kernel_rfl)) | refine sa_ ?_
    |refine jd ?_ (hy:=by first | (apply kh rfl; exact oo_; exact v1_ (List.Mem.head _) rfl)
                                  |(apply kh rfl; exact oo_; exact v1_ (List.Mem.tail _ (List.Mem.head _)) rfl)
                                  |(apply kh rfl; exact oo_; exact v1_ (List.Mem.tail _ (List.Mem.tail _ (List.Mem.head _))) rfl)
                                  |(apply kh rfl; exact ql; exact v1_ (List.Mem.head _) rfl)
                                  |(apply kh rfl; exact ql; exact v1_ (List.Mem.tail _ (List.Mem.head _)) rfl)
                                  |(apply kh rfl; exact ql; exact v1_ (List.Mem.tail _ (List.Mem.tail _ (List.Mem.head _))) rfl)
                                  |(apply zn rfl; exact oo_; exact oo_)
                                  |exact AY.sub (qa (T:=moT) [(_,_,_,_,_),(_,_,_,_,_),(_,_,_,_,_),(_,_,_,_,_),(_,_,_,_,_),(_,_,_,_,_),(_,_,_,_,_),(_,_,_,_,_)] rfl un_ el_ rfl (by decide) ⟨_,px_,rfl⟩) jc | fail)
   |refine j0 ?_
    |refine qj ?_ (hy:=by intro hk hk2; first | (apply kh rfl; exact oo_; exact v1_ (List.Mem.head _) rfl)
                                                |(apply kh rfl; exact oo_; exact v1_ (List.Mem.tail _ (List.Mem.head _)) rfl)
                                                |(apply kh rfl; exact oo_; exact v1_ (List.Mem.tail _ (List.Mem.tail _ (List.Mem.head _))) rfl)
                                                |(apply kh rfl; exact ql; exact v1_ (List.Mem.head _) rfl)
                                                |(apply kh rfl; exact ql; exact v1_ (List.Mem.tail _ (List.Mem.head _)) rfl)
                                                |(apply kh rfl; exact ql; exact v1_ (List.Mem.tail _ (List.Mem.tail _ (List.Mem.head _))) rfl)
                                                |(apply zn rfl; exact oo_; exact oo_)
                                                |exact AY.sub (qa (T:=moT) [(_,_,_,_,_),(_,_,_,_,_),(_,_,_,_,_),(_,_,_,_,_),(_,_,_,_,_),(_,_,_,_,_),(_,_,_,_,_),(_,_,_,_,_)] rfl un_ el_ rfl (by decide) ⟨_,px_,rfl⟩) jc | fail)
   |refine sw_ ?_ | refine w_fzg ?_ | (refine zd ?_ ?_ <;> intro hb <;> try exact no_) | (refine sx_ ?_ <;> intro bb) | (refine su_ ?_ <;> intro u hu1 hu2) | fail)
   all_goals first | exact e4_ | skip
   all_goals first | exact ⟨k + 1,by omega,by omega,wk_,by rw [hp]; exact List.Sublist.cons _ (List.Sublist.refl _)⟩ | skip
  |true =>
   have hp:=z_c hat
   have hf:=z25 hat
   rw [hfull] at hf
   have hA : Sub (qb [I c1,I c2,I c3,R c4]) (yw (c1,c2,c3,c4)):=Sub.refl _
   repeat' (first
   |refine uj (id:=6) ?_ | refine z6h ?_ | refine zm7 ?_ (hy:=by first | (apply kh rfl; exact oo_; exact v1_ (List.Mem.head _) rfl) | (apply kh rfl; exact oo_; exact v1_ (List.Mem.tail _ (List.Mem.head _)) rfl) | fail) | refine zht ?_ | (refine zxw ?_ (hU:=UpdF.here); dsimp only) | refine zm7 ?_ (hy:=by first | (apply kh rfl; exact oo_; apply vn_; exact List.Mem.head _; exact zx8; done) | fail) | refine za2 _ _ _ [_,qh b5 3 [I Y],qh b4 3 [I X],qh b3 24 [I w,I h,slA guT l,I x,I y,B b,B s]] rfl rfl rfl (zoi rfl rfl (zd1 rfl) rfl) rfl rfl hA hZ hf ?_ ?_ | refine z14 ?_ | (apply zw (by rfl) (by kernel_rfl) (by kernel_rfl)) | refine sa_ ?_
    |refine jd ?_ (hy:=by first | (apply kh rfl; exact oo_; exact v1_ (List.Mem.head _) rfl)
                                  |(apply kh rfl; exact oo_; exact v1_ (List.Mem.tail _ (List.Mem.head _)) rfl)
                                  |(apply kh rfl; exact oo_; exact v1_ (List.Mem.tail _ (List.Mem.tail _ (List.Mem.head _))) rfl)
                                  |(apply kh rfl; exact ql; exact v1_ (List.Mem.head _) rfl)
                                  |(apply kh rfl; exact ql; exact v1_ (List.Mem.tail _ (List.Mem.head _)) rfl)
                                  |(apply kh rfl; exact ql; exact v1_ (List.Mem.tail _ (List.Mem.tail _ (List.Mem.head _))) rfl)
                                  |(apply zn rfl; exact oo_; exact oo_)
                                  |exact AY.sub (qa (T:=moT) [(_,_,_,_,_),(_,_,_,_,_),(_,_,_,_,_),(_,_,_,_,_),(_,_,_,_,_),(_,_,_,_,_),(_,_,_,_,_),(_,_,_,_,_)] rfl un_ el_ rfl (by decide) ⟨_,px_,rfl⟩) jc | fail)
   |refine j0 ?_
    |refine qj ?_ (hy:=by intro hk hk2; first | (apply kh rfl; exact oo_; exact v1_ (List.Mem.head _) rfl)
                                                |(apply kh rfl; exact oo_; exact v1_ (List.Mem.tail _ (List.Mem.head _)) rfl)
                                                |(apply kh rfl; exact oo_; exact v1_ (List.Mem.tail _ (List.Mem.tail _ (List.Mem.head _))) rfl)
                                                |(apply kh rfl; exact ql; exact v1_ (List.Mem.head _) rfl)
                                                |(apply kh rfl; exact ql; exact v1_ (List.Mem.tail _ (List.Mem.head _)) rfl)
                                                |(apply kh rfl; exact ql; exact v1_ (List.Mem.tail _ (List.Mem.tail _ (List.Mem.head _))) rfl)
                                                |(apply zn rfl; exact oo_; exact oo_)
                                                |exact AY.sub (qa (T:=moT) [(_,_,_,_,_),(_,_,_,_,_),(_,_,_,_,_),(_,_,_,_,_),(_,_,_,_,_),(_,_,_,_,_),(_,_,_,_,_),(_,_,_,_,_)] rfl un_ el_ rfl (by decide) ⟨_,px_,rfl⟩) jc | fail)
   |refine sw_ ?_ | refine w_fzg ?_ | (refine zd ?_ ?_ <;> intro hb <;> try exact no_) | (refine sx_ ?_ <;> intro bb) | (refine su_ ?_ <;> intro u hu1 hu2) | fail)
   all_goals first | exact e4_ | skip
   ·exact ⟨k + 1,by omega,by omega,wk_,by rw [hp]; exact List.Sublist.cons _ (List.Sublist.refl _)⟩
   ·exact .inr ⟨_,z3i L (k + 1),by rw [← hf]; simp,List.Sublist.cons _ (List.Sublist.cons _ (List.Sublist.cons _ (List.Sublist.cons _ (List.Sublist.refl _))))⟩
 ·obtain rfl : k = 8:=by omega
  repeat' (first
  |refine uj (id:=6) ?_ | refine z6h ?_ | refine zm7 ?_ (hy:=by first | (apply kh rfl; exact oo_; exact v1_ (List.Mem.head _) rfl) | (apply kh rfl; exact oo_; exact v1_ (List.Mem.tail _ (List.Mem.head _)) rfl) | fail) | refine zht ?_ | (refine zxw ?_ (hU:=UpdF.here); dsimp only) | refine zm7 ?_ (hy:=by first | (apply kh rfl; exact oo_; apply vn_; exact List.Mem.head _; exact zx8; done) | fail) | refine za2 _ _ _ [_,qh b5 3 [I Y],qh b4 3 [I X],qh b3 24 [I w,I h,slA guT l,I x,I y,B b,B s]] rfl rfl rfl (zoi rfl rfl (zd1 rfl) rfl) rfl rfl hA hZ hf ?_ ?_ | refine sa_ ?_
   |refine jd ?_ (hy:=by first | (apply kh rfl; exact oo_; exact v1_ (List.Mem.head _) rfl)
                                 |(apply kh rfl; exact oo_; exact v1_ (List.Mem.tail _ (List.Mem.head _)) rfl)
                                 |(apply kh rfl; exact oo_; exact v1_ (List.Mem.tail _ (List.Mem.tail _ (List.Mem.head _))) rfl)
                                 |(apply kh rfl; exact ql; exact v1_ (List.Mem.head _) rfl)
                                 |(apply kh rfl; exact ql; exact v1_ (List.Mem.tail _ (List.Mem.head _)) rfl)
                                 |(apply kh rfl; exact ql; exact v1_ (List.Mem.tail _ (List.Mem.tail _ (List.Mem.head _))) rfl)
                                 |(apply zn rfl; exact oo_; exact oo_)
                                 |exact AY.sub (qa (T:=moT) [(_,_,_,_,_),(_,_,_,_,_),(_,_,_,_,_),(_,_,_,_,_),(_,_,_,_,_),(_,_,_,_,_),(_,_,_,_,_),(_,_,_,_,_)] rfl un_ el_ rfl (by decide) ⟨_,px_,rfl⟩) jc | fail)
  |refine j0 ?_
   |refine qj ?_ (hy:=by intro hk hk2; first | (apply kh rfl; exact oo_; exact v1_ (List.Mem.head _) rfl)
                                               |(apply kh rfl; exact oo_; exact v1_ (List.Mem.tail _ (List.Mem.head _)) rfl)
                                               |(apply kh rfl; exact oo_; exact v1_ (List.Mem.tail _ (List.Mem.tail _ (List.Mem.head _))) rfl)
                                               |(apply kh rfl; exact ql; exact v1_ (List.Mem.head _) rfl)
                                               |(apply kh rfl; exact ql; exact v1_ (List.Mem.tail _ (List.Mem.head _)) rfl)
                                               |(apply kh rfl; exact ql; exact v1_ (List.Mem.tail _ (List.Mem.tail _ (List.Mem.head _))) rfl)
                                               |(apply zn rfl; exact oo_; exact oo_)
                                               |exact AY.sub (qa (T:=moT) [(_,_,_,_,_),(_,_,_,_,_),(_,_,_,_,_),(_,_,_,_,_),(_,_,_,_,_),(_,_,_,_,_),(_,_,_,_,_),(_,_,_,_,_)] rfl un_ el_ rfl (by decide) ⟨_,px_,rfl⟩) jc | fail)
  |refine sw_ ?_ | (refine zd ?_ ?_ <;> intro hb <;> try exact no_) | (refine sx_ ?_ <;> intro bb) | (refine su_ ?_ <;> intro u hu1 hu2) | fail)
  all_goals first | exact e1_ | skip
  exact .inl (List.Sublist.cons _ (List.Sublist.cons _ (List.Sublist.cons _ (List.Sublist.refl _))))
end Go.Proofs.YtgfmjmfphmjdkaaGreatDoor
