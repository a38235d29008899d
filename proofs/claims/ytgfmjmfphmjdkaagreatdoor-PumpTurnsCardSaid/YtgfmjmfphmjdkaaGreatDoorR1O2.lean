/- Layer 28 (motion): the moves, as an iterator, by the program. No condition. -/
import Derived.Test.YtgfmjmfphmjdkaaGreatDoorR1B1
import Derived.Test.YtgfmjmfphmjdkaaGreatDoorR1H1
set_option linter.unusedSimpArgs false
set_option linter.unusedVariables false
set_option linter.unusedSectionVars false
namespace Go.Proofs.YtgfmjmfphmjdkaaGreatDoor
set_option maxHeartbeats 4000000
open Go Go.RowKit
variable {T0 : Gh} [TabS T0]
attribute [local irreducible] z_ zg AW AL AO QY qd zx rsA Opd xi vA gvA zt z0 slA jc ipA rpA EqK LnK IxK LdK FaK FdK
set_option maxRecDepth 100000
theorem zb0 (w h : Int) (l : List zi) (x y : Int) (b s : Bool) (X Y : Int) : AF Tryz.prog T0 108 [jb w h l x y b s,I X,I Y] [] (fun A M' => ∃ b3 b4 b5,A = fnA 145 [bx b4,bx b3,bx b5] ∧ M' = [qd b5 3 [I Y],qd b4 3 [I X],qd b3 24 [I w,I h,slA guT l,I x,I y,B b,B s]]):=by
 refine za Tryz.func108 rfl (by decide) Tryz.ntmps108 rfl ?_
 repeat' (first
 |refine qb2 ?_ | (refine zb ?_ ?_ <;> intro hb <;> try exact no_) | (refine sx_ ?_ <;> intro bb) | (refine su_ ?_ <;> intro u hu1 hu2) | fail)
 all_goals first | exact ⟨_,_,rl_,List.Sublist.refl _,_,_,_,rfl,rfl⟩ | skip
def zy4 (L : List (Bool × Cmd)) (k : Nat) : List Cmd:=((L.take k).filter (·.1)).map (·.2)
def z4t (L : List (Bool × Cmd)) (k : Nat) : List Cmd:=((L.drop k).filter (·.1)).map (·.2)
theorem z_2 {L : List (Bool × Cmd)} {k : Nat} {c : Cmd} (h : L[k]? = some (true,c)) : zy4 L (k + 1) = zy4 L k ++ [c]:=by
 unfold zy4; rw [List.take_add_one,h]; simp
theorem z_3 {L : List (Bool × Cmd)} {k : Nat} {c : Cmd} (h : L[k]? = some (false,c)) : zy4 L (k + 1) = zy4 L k:=by
 unfold zy4; rw [List.take_add_one,h]; simp
theorem z4e {L : List (Bool × Cmd)} {k : Nat} {c : Cmd} (h : L[k]? = some (true,c)) : zy4 L k ++ c :: z4t L (k + 1) = (L.filter (·.1)).map (·.2):=by
 obtain ⟨hk,he⟩:=List.getElem?_eq_some_iff.1 h
 have h2 : L = L.take k ++ (true,c) :: L.drop (k + 1):=by
  rw [← he,← List.drop_eq_getElem_cons hk,List.take_append_drop]
 conv=>rhs; rw [h2]
 unfold zy4 z4t
 simp
theorem z30 (w h : Int) (l : List zi) (x y : Int) (b s : Bool) (X Y : Int) (b3 b4 b5 : Nat) (hh : -1000 ≤ h ∧ h ≤ 1000) (hx : -1000 ≤ x ∧ x ≤ 1000) (hy : -1000 ≤ y ∧ y ≤ 1000) (hX : -1000 ≤ X ∧ X ≤ 1000) (hY : -1000 ≤ Y ∧ Y ≤ 1000) :
  IterC Tryz.prog 145 [bx b4,bx b3,bx b5] [qd b5 3 [I Y],qd b4 3 [I X],qd b3 24 [I w,I h,slA guT l,I x,I y,B b,B s]] vi (jw h x y X Y):=by
 refine zqm Tryz.func145 rfl (by decide) Tryz.ntmps145 rfl rfl fun T1 lo Z V hZ => ?_
 simp only [List.cons_append,List.nil_append]
 refine zey ?_
 repeat' (first
 |refine sa_ ?_
  |refine xr ?_ (hy:=by first | (apply kr rfl; exact oo_; exact v1_ (List.Mem.head _) rfl)
                                |(apply kr rfl; exact oo_; exact v1_ (List.Mem.tail _ (List.Mem.head _)) rfl)
                                |(apply kr rfl; exact oo_; exact v1_ (List.Mem.tail _ (List.Mem.tail _ (List.Mem.head _))) rfl)
                                |(apply kr rfl; exact qe; exact v1_ (List.Mem.head _) rfl)
                                |(apply kr rfl; exact qe; exact v1_ (List.Mem.tail _ (List.Mem.head _)) rfl)
                                |(apply kr rfl; exact qe; exact v1_ (List.Mem.tail _ (List.Mem.tail _ (List.Mem.head _))) rfl)
                                |(apply zn rfl; exact oo_; exact oo_)
                                |exact AY.sub (zr (T:=moT) [(_,_,_,_,_),(_,_,_,_,_),(_,_,_,_,_),(_,_,_,_,_),(_,_,_,_,_),(_,_,_,_,_),(_,_,_,_,_),(_,_,_,_,_)] rfl un_ el_ rfl (by decide) ⟨_,px_,rfl⟩) qw | fail)
 |refine x5 ?_
  |refine qc ?_ (hy:=by intro hk hk2; first | (apply kr rfl; exact oo_; exact v1_ (List.Mem.head _) rfl)
                                              |(apply kr rfl; exact oo_; exact v1_ (List.Mem.tail _ (List.Mem.head _)) rfl)
                                              |(apply kr rfl; exact oo_; exact v1_ (List.Mem.tail _ (List.Mem.tail _ (List.Mem.head _))) rfl)
                                              |(apply kr rfl; exact qe; exact v1_ (List.Mem.head _) rfl)
                                              |(apply kr rfl; exact qe; exact v1_ (List.Mem.tail _ (List.Mem.head _)) rfl)
                                              |(apply kr rfl; exact qe; exact v1_ (List.Mem.tail _ (List.Mem.tail _ (List.Mem.head _))) rfl)
                                              |(apply zn rfl; exact oo_; exact oo_)
                                              |exact AY.sub (zr (T:=moT) [(_,_,_,_,_),(_,_,_,_,_),(_,_,_,_,_),(_,_,_,_,_),(_,_,_,_,_),(_,_,_,_,_),(_,_,_,_,_),(_,_,_,_,_)] rfl un_ el_ rfl (by decide) ⟨_,px_,rfl⟩) qw | fail)
 |refine sw_ ?_ | (refine zb ?_ ?_ <;> intro hb <;> try exact no_) | (refine sx_ ?_ <;> intro bb) | (refine su_ ?_ <;> intro u hu1 hu2) | fail)
 obtain ⟨L,hL⟩ : ∃ L,L = moL h x y X Y:=⟨_,rfl⟩
 have h8 : L.length = 8:=by rw [hL]; rfl
 have hM : jw h x y X Y = zy4 L 8:=by rw [hL]; rfl
 have hfull : (L.filter (·.1)).map (·.2) = jw h x y X Y:=by rw [hL]; rfl
 refine zee (fun k : Nat=>[(0,yA lo),(1,bx b4),(2,bx b3),(3,bx b5),(116,slA moT L),(117,I (8 : Nat)),(118,I k)]) (fun k=>[qd b5 3 [I Y],qd b4 3 [I X],qd b3 24 [I w,I h,slA guT l,I x,I y,B b,B s]] ++ Z (zy4 L k)) (fun k=>k ≤ 8) (fun k=>8 - k) 0 (Nat.zero_le _) (by subst hL; exact wk_) (List.Sublist.refl _) ?_
 rintro k h1
 simp only [List.cons_append,List.nil_append]
 rw [hM]
 rw [hM] at hfull hZ
 by_cases hlt : k < 8
 ·obtain ⟨⟨is,c1,c2,c3,c4⟩,hat⟩ : ∃ z,L[k]? = some z:=⟨_,List.getElem?_eq_getElem (by omega)⟩
  cases is with
  |false =>
   have hp:=z_3 hat
   repeat' (first
   |(refine zzh ?_ (hU:=UpdF.here); dsimp only) | refine xr ?_ (hy:=zyq (b:=false) (d:=false) rfl (by exact oo_) (fun h=>by cases h)) | refine zey ?_ | refine w8 ?_ | refine zjk ?_ | refine z6w ?_ | refine z6x ?_ | refine z6v ?_ | refine z61 ?_ | refine z62 rfl ?_ | refine zsx rfl ?_ | refine z60 ?_ | refine zbc ?_ | refine zef ?_ | refine zji ?_ | refine zed ?_ | (apply zm (by rfl) (by kernel_rfl) (by kernel_rfl)) | refine sa_ ?_
    |refine xr ?_ (hy:=by first | (apply kr rfl; exact oo_; exact v1_ (List.Mem.head _) rfl)
                                  |(apply kr rfl; exact oo_; exact v1_ (List.Mem.tail _ (List.Mem.head _)) rfl)
                                  |(apply kr rfl; exact oo_; exact v1_ (List.Mem.tail _ (List.Mem.tail _ (List.Mem.head _))) rfl)
                                  |(apply kr rfl; exact qe; exact v1_ (List.Mem.head _) rfl)
                                  |(apply kr rfl; exact qe; exact v1_ (List.Mem.tail _ (List.Mem.head _)) rfl)
                                  |(apply kr rfl; exact qe; exact v1_ (List.Mem.tail _ (List.Mem.tail _ (List.Mem.head _))) rfl)
                                  |(apply zn rfl; exact oo_; exact oo_)
                                  |exact AY.sub (zr (T:=moT) [(_,_,_,_,_),(_,_,_,_,_),(_,_,_,_,_),(_,_,_,_,_),(_,_,_,_,_),(_,_,_,_,_),(_,_,_,_,_),(_,_,_,_,_)] rfl un_ el_ rfl (by decide) ⟨_,px_,rfl⟩) qw | fail)
   |refine x5 ?_
    |refine qc ?_ (hy:=by intro hk hk2; first | (apply kr rfl; exact oo_; exact v1_ (List.Mem.head _) rfl)
                                                |(apply kr rfl; exact oo_; exact v1_ (List.Mem.tail _ (List.Mem.head _)) rfl)
                                                |(apply kr rfl; exact oo_; exact v1_ (List.Mem.tail _ (List.Mem.tail _ (List.Mem.head _))) rfl)
                                                |(apply kr rfl; exact qe; exact v1_ (List.Mem.head _) rfl)
                                                |(apply kr rfl; exact qe; exact v1_ (List.Mem.tail _ (List.Mem.head _)) rfl)
                                                |(apply kr rfl; exact qe; exact v1_ (List.Mem.tail _ (List.Mem.tail _ (List.Mem.head _))) rfl)
                                                |(apply zn rfl; exact oo_; exact oo_)
                                                |exact AY.sub (zr (T:=moT) [(_,_,_,_,_),(_,_,_,_,_),(_,_,_,_,_),(_,_,_,_,_),(_,_,_,_,_),(_,_,_,_,_),(_,_,_,_,_),(_,_,_,_,_)] rfl un_ el_ rfl (by decide) ⟨_,px_,rfl⟩) qw | fail)
   |refine sw_ ?_ | refine w_fzg ?_ | (refine zb ?_ ?_ <;> intro hb <;> try exact no_) | (refine sx_ ?_ <;> intro bb) | (refine su_ ?_ <;> intro u hu1 hu2) | fail)
   all_goals first | (exfalso; omega) | (exfalso; simp at hb; done) | skip
   all_goals first | exact ⟨k + 1,by omega,by omega,wk_,by rw [hp]; exact List.Sublist.cons _ (List.Sublist.refl _)⟩ | skip
  |true =>
   have hp:=z_2 hat
   have hf:=z4e hat
   rw [hfull] at hf
   have hA : Sub (z0 [I c1,I c2,I c3,R c4]) (vi (c1,c2,c3,c4)):=Sub.refl _
   repeat' (first
   |refine ui (id:=6) ?_ | refine z7p ?_ | refine znr ?_ (hy:=by first | (apply kr rfl; exact oo_; exact v1_ (List.Mem.head _) rfl) | (apply kr rfl; exact oo_; exact v1_ (List.Mem.tail _ (List.Mem.head _)) rfl) | fail) | refine zh1 ?_ | (refine zzh ?_ (hU:=UpdF.here); dsimp only) | refine znr ?_ (hy:=by first | (apply kr rfl; exact oo_; apply vn_; exact List.Mem.head _; exact zzp; done) | fail) | refine zav _ _ _ [_,qd b5 3 [I Y],qd b4 3 [I X],qd b3 24 [I w,I h,slA guT l,I x,I y,B b,B s]] rfl rfl rfl (zpo rfl rfl (zd6 rfl) rfl) rfl rfl hA hZ hf ?_ ?_ | refine z26 ?_ | (apply zm (by rfl) (by kernel_rfl) (by kernel_rfl)) | refine sa_ ?_
    |refine xr ?_ (hy:=by first | (apply kr rfl; exact oo_; exact v1_ (List.Mem.head _) rfl)
                                  |(apply kr rfl; exact oo_; exact v1_ (List.Mem.tail _ (List.Mem.head _)) rfl)
                                  |(apply kr rfl; exact oo_; exact v1_ (List.Mem.tail _ (List.Mem.tail _ (List.Mem.head _))) rfl)
                                  |(apply kr rfl; exact qe; exact v1_ (List.Mem.head _) rfl)
                                  |(apply kr rfl; exact qe; exact v1_ (List.Mem.tail _ (List.Mem.head _)) rfl)
                                  |(apply kr rfl; exact qe; exact v1_ (List.Mem.tail _ (List.Mem.tail _ (List.Mem.head _))) rfl)
                                  |(apply zn rfl; exact oo_; exact oo_)
                                  |exact AY.sub (zr (T:=moT) [(_,_,_,_,_),(_,_,_,_,_),(_,_,_,_,_),(_,_,_,_,_),(_,_,_,_,_),(_,_,_,_,_),(_,_,_,_,_),(_,_,_,_,_)] rfl un_ el_ rfl (by decide) ⟨_,px_,rfl⟩) qw | fail)
   |refine x5 ?_
    |refine qc ?_ (hy:=by intro hk hk2; first | (apply kr rfl; exact oo_; exact v1_ (List.Mem.head _) rfl)
                                                |(apply kr rfl; exact oo_; exact v1_ (List.Mem.tail _ (List.Mem.head _)) rfl)
                                                |(apply kr rfl; exact oo_; exact v1_ (List.Mem.tail _ (List.Mem.tail _ (List.Mem.head _))) rfl)
                                                |(apply kr rfl; exact qe; exact v1_ (List.Mem.head _) rfl)
                                                |(apply kr rfl; exact qe; exact v1_ (List.Mem.tail _ (List.Mem.head _)) rfl)
                                                |(apply kr rfl; exact qe; exact v1_ (List.Mem.tail _ (List.Mem.tail _ (List.Mem.head _))) rfl)
                                                |(apply zn rfl; exact oo_; exact oo_)
                                                |exact AY.sub (zr (T:=moT) [(_,_,_,_,_),(_,_,_,_,_),(_,_,_,_,_),(_,_,_,_,_),(_,_,_,_,_),(_,_,_,_,_),(_,_,_,_,_),(_,_,_,_,_)] rfl un_ el_ rfl (by decide) ⟨_,px_,rfl⟩) qw | fail)
   |refine sw_ ?_ | refine w_fzg ?_ | (refine zb ?_ ?_ <;> intro hb <;> try exact no_) | (refine sx_ ?_ <;> intro bb) | (refine su_ ?_ <;> intro u hu1 hu2) | fail)
   all_goals first | (exfalso; omega) | (exfalso; simp at hb; done) | skip
   ·exact ⟨k + 1,by omega,by omega,wk_,by rw [hp]; exact List.Sublist.cons _ (List.Sublist.refl _)⟩
   ·exact .inr ⟨_,z4t L (k + 1),by rw [← hf]; simp,List.Sublist.cons _ (List.Sublist.cons _ (List.Sublist.cons _ (List.Sublist.cons _ (List.Sublist.refl _))))⟩
 ·obtain rfl : k = 8:=by omega
  repeat' (first
  |refine ui (id:=6) ?_ | refine z7p ?_ | refine znr ?_ (hy:=by first | (apply kr rfl; exact oo_; exact v1_ (List.Mem.head _) rfl) | (apply kr rfl; exact oo_; exact v1_ (List.Mem.tail _ (List.Mem.head _)) rfl) | fail) | refine zh1 ?_ | (refine zzh ?_ (hU:=UpdF.here); dsimp only) | refine znr ?_ (hy:=by first | (apply kr rfl; exact oo_; apply vn_; exact List.Mem.head _; exact zzp; done) | fail) | refine zav _ _ _ [_,qd b5 3 [I Y],qd b4 3 [I X],qd b3 24 [I w,I h,slA guT l,I x,I y,B b,B s]] rfl rfl rfl (zpo rfl rfl (zd6 rfl) rfl) rfl rfl hA hZ hf ?_ ?_ | refine sa_ ?_
   |refine xr ?_ (hy:=by first | (apply kr rfl; exact oo_; exact v1_ (List.Mem.head _) rfl)
                                 |(apply kr rfl; exact oo_; exact v1_ (List.Mem.tail _ (List.Mem.head _)) rfl)
                                 |(apply kr rfl; exact oo_; exact v1_ (List.Mem.tail _ (List.Mem.tail _ (List.Mem.head _))) rfl)
                                 |(apply kr rfl; exact qe; exact v1_ (List.Mem.head _) rfl)
                                 |(apply kr rfl; exact qe; exact v1_ (List.Mem.tail _ (List.Mem.head _)) rfl)
                                 |(apply kr rfl; exact qe; exact v1_ (List.Mem.tail _ (List.Mem.tail _ (List.Mem.head _))) rfl)
                                 |(apply zn rfl; exact oo_; exact oo_)
                                 |exact AY.sub (zr (T:=moT) [(_,_,_,_,_),(_,_,_,_,_),(_,_,_,_,_),(_,_,_,_,_),(_,_,_,_,_),(_,_,_,_,_),(_,_,_,_,_),(_,_,_,_,_)] rfl un_ el_ rfl (by decide) ⟨_,px_,rfl⟩) qw | fail)
  |refine x5 ?_
   |refine qc ?_ (hy:=by intro hk hk2; first | (apply kr rfl; exact oo_; exact v1_ (List.Mem.head _) rfl)
                                               |(apply kr rfl; exact oo_; exact v1_ (List.Mem.tail _ (List.Mem.head _)) rfl)
                                               |(apply kr rfl; exact oo_; exact v1_ (List.Mem.tail _ (List.Mem.tail _ (List.Mem.head _))) rfl)
                                               |(apply kr rfl; exact qe; exact v1_ (List.Mem.head _) rfl)
                                               |(apply kr rfl; exact qe; exact v1_ (List.Mem.tail _ (List.Mem.head _)) rfl)
                                               |(apply kr rfl; exact qe; exact v1_ (List.Mem.tail _ (List.Mem.tail _ (List.Mem.head _))) rfl)
                                               |(apply zn rfl; exact oo_; exact oo_)
                                               |exact AY.sub (zr (T:=moT) [(_,_,_,_,_),(_,_,_,_,_),(_,_,_,_,_),(_,_,_,_,_),(_,_,_,_,_),(_,_,_,_,_),(_,_,_,_,_),(_,_,_,_,_)] rfl un_ el_ rfl (by decide) ⟨_,px_,rfl⟩) qw | fail)
  |refine sw_ ?_ | (refine zb ?_ ?_ <;> intro hb <;> try exact no_) | (refine sx_ ?_ <;> intro bb) | (refine su_ ?_ <;> intro u hu1 hu2) | fail)
  all_goals first | exact e1_ | skip
  exact .inl (List.Sublist.cons _ (List.Sublist.cons _ (List.Sublist.cons _ (List.Sublist.refl _))))
end Go.Proofs.YtgfmjmfphmjdkaaGreatDoor
