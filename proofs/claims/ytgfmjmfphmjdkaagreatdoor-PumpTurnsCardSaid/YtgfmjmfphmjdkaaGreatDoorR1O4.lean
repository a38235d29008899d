/- Layer 28 (motion): the reference: the commands that may lead there, and which is told. No condition. -/
import Derived.Test.YtgfmjmfphmjdkaaGreatDoorR1H4
import Derived.Test.YtgfmjmfphmjdkaaGreatDoorR1H1
import Derived.Test.YtgfmjmfphmjdkaaGreatDoorR1AW
set_option linter.unusedSimpArgs false
set_option linter.unusedVariables false
set_option linter.unusedSectionVars false
namespace Go.Proofs.YtgfmjmfphmjdkaaGreatDoor
set_option maxHeartbeats 4000000
open Go Go.RowKit
set_option maxRecDepth 100000
def zum (k : Int) (m : Nat) : List Cmd:=(List.range m).map fun (n : Nat)=>(k,((n : Int) + 1),0,0)
theorem zul (k : Int) (m : Nat) : zum k (m + 1) = zum k m ++ [(k,((m + 1 : Nat) : Int),0,0)]:=by
 unfold zum; rw [List.range_succ,List.map_append]; rfl
def z2s (X Y : Int) (j : Nat) : List Cmd:=goC X Y :: ((List.range j).flatMap fun (i : Nat)=>zum ((i + 3 : Nat) : Int) 80)
theorem ub (X Y : Int) (j : Nat) : z2s X Y (j + 1) = z2s X Y j ++ zum ((j + 3 : Nat) : Int) 80:=by
 unfold z2s; rw [List.range_succ,List.flatMap_append]; simp
theorem z7y (X Y : Int) : z2s X Y 4 = goC X Y :: (za0 3 ++ za0 4 ++ za0 5 ++ za0 6):=by
 rw [ub,ub,ub,ub]
 show [goC X Y] ++ za0 3 ++ za0 4 ++ za0 5 ++ za0 6 = _
 simp
theorem z0c (X Y : Int) (j : Nat) : (z2s X Y j).length = 1 + j * 80:=by
 induction j with
 |zero=>rfl
 |succ j ih=>rw [ub,List.length_append,ih]; simp [zum]; omega
theorem zzl (k : Int) (m : Nat) : (zum k m).length = m:=by simp [zum]
variable {T0 : Gh} [TabS T0]
attribute [local irreducible] z_ zg AW AL AO QY qd zx rsA Opd xi vA gvA zt z0 slA jc ipA rpA EqK LnK IxK LdK FaK FdK
theorem zof (w h : Int) (l : List zi) (x y : Int) (b s : Bool) (X Y : Int) : AP Tryz.prog T0 58 [jb w h l x y b s,I X,I Y] (B (zbx (w,h,l,x,y,b,s) X Y)):=by
 refine za Tryz.func58 rfl (by decide) Tryz.ntmps58 rfl ?_
 repeat' (first
 |refine g6_ ?_ | (refine zb ?_ ?_ <;> intro hb <;> try exact no_) | (refine sx_ ?_ <;> intro bb) | (refine su_ ?_ <;> intro u hu1 hu2) | fail)
 exact ⟨_,[],rl_,List.nil_sublist _,Sub.refl _,rfl⟩
theorem z80 (w h : Int) (l : List zi) (x y : Int) (b s : Bool) (hs : qu w h = true) : AP Tryz.prog T0 113 [jb w h l x y b s] (blA (zec (w,h,l,x,y,b,s))):=by
 have c1 : AP Tryz.prog T0 84 [I w,I h] (zt [jb w h (List.replicate (w.toNat * h.toNat) wg) 0 0 false false,I 0]):=(w6 w h).to (by rw [yg,if_pos hs])
 show AP _ _ _ _ (jb w h (List.replicate (w.toNat * h.toNat) wg) x y b s)
 generalize List.replicate (w.toNat * h.toNat) wg = L at *
 refine za Tryz.func113 rfl (by decide) Tryz.ntmps113 rfl ?_
 repeat' (first
 |refine zl5 ?_ | (refine zb ?_ ?_ <;> intro hb <;> try exact no_) | (refine sx_ ?_ <;> intro bb) | (refine su_ ?_ <;> intro u hu1 hu2) | fail)
 exact ⟨_,[],rl_,List.nil_sublist _,Sub.refl _,rfl⟩
theorem qa7 (w h : Int) (l : List zi) (x y : Int) (b s : Bool) (X Y : Int) (hh : -1000 ≤ h ∧ h ≤ 1000) : AP Tryz.prog T0 110 [jb w h l x y b s,I X,I Y] (slA ws (znh (s && decide (y < h - 1)) X Y)):=by
 refine AF.own (T:=ws) (e:=35) ?_
 refine za Tryz.func110 rfl (by decide) Tryz.ntmps110 rfl ?_
 repeat' (first
 |(refine zgb [(2,Y,X,0)] ?_ rfl rfl rfl rfl un_ el_ rfl (by decide) ⟨_,px_,rfl⟩; intro u hu1 hu2) | refine z8k ?_ | (refine zb ?_ ?_ <;> intro hb <;> try exact no_) | (refine sx_ ?_ <;> intro bb) | (refine su_ ?_ <;> intro u hu1 hu2) | fail)
 refine z14 7 (fun j : Nat=>[(8,I ((j + 3 : Nat) : Int))]) (fun j=>z2s X Y j) (fun j=>j ≤ 4) (fun j=>4 - j) 0 (Nat.zero_le _) rfl ?_
 rintro j u j1 hu1 hu2
 have hj:=z0c X Y j
 by_cases hlt : j < 4
 ·have hsu:=ub X Y j
  generalize z2s X Y j = L0 at *
  repeat' (first
  |(refine zgb [(2,Y,X,0)] ?_ rfl rfl rfl rfl un_ el_ rfl (by decide) ⟨_,px_,rfl⟩; intro u hu1 hu2) | refine z8k ?_ | (refine zb ?_ ?_ <;> intro hb <;> try exact no_) | (refine sx_ ?_ <;> intro bb) | (refine su_ ?_ <;> intro u hu1 hu2) | fail)
  all_goals first | exact e1_ | skip
  refine z14 7 (fun m : Nat=>[(9,I ((m + 1 : Nat) : Int))]) (fun m=>L0 ++ zum ((j + 3 : Nat) : Int) m) (fun m=>m ≤ 80) (fun m=>80 - m) 0 (Nat.zero_le _) ?_ ?_
  ·simp [zum]
  rintro m u m1 hu1 hu2
  have hm:=zzl ((j + 3 : Nat) : Int) m
  have hms:=zul ((j + 3 : Nat) : Int) m
  obtain ⟨L1,hL1⟩ : ∃ L1,L1 = zum ((j + 3 : Nat) : Int) m:=⟨_,rfl⟩
  rw [← hL1] at hm hms ⊢
  by_cases hlt2 : m < 80
  ·repeat' (first
   |(refine zgb [(2,Y,X,0)] ?_ rfl rfl rfl rfl un_ el_ rfl (by decide) ⟨_,px_,rfl⟩; intro u hu1 hu2) | refine z8k ?_ | (refine zb ?_ ?_ <;> intro hb <;> try exact no_) | (refine sx_ ?_ <;> intro bb) | (refine su_ ?_ <;> intro u hu1 hu2) | fail)
   all_goals first | exact e1_ | skip
   exact ⟨m + 1,_,by omega,by omega,wx_,by rw [hms,← List.append_assoc]; exact List.Sublist.refl _⟩
  ·obtain rfl : m = 80:=by omega
   repeat' (first
   |(refine zgb [(2,Y,X,0)] ?_ rfl rfl rfl rfl un_ el_ rfl (by decide) ⟨_,px_,rfl⟩; intro u hu1 hu2) | refine z8k ?_ | (refine zb ?_ ?_ <;> intro hb <;> try exact no_) | (refine sx_ ?_ <;> intro bb) | (refine su_ ?_ <;> intro u hu1 hu2) | fail)
   all_goals first | exact e1_ | skip
   exact ⟨j + 1,u,by omega,by omega,wx_,by rw [hsu,← hL1]; exact List.Sublist.refl _⟩
 ·obtain rfl : j = 4:=by omega
  have h4:=z7y X Y
  generalize z2s X Y 4 = L0 at *
  repeat' (first
  |(refine zgb [(2,Y,X,0)] ?_ rfl rfl rfl rfl un_ el_ rfl (by decide) ⟨_,px_,rfl⟩; intro u hu1 hu2) | refine z8k ?_ | (refine zb ?_ ?_ <;> intro hb <;> try exact no_) | (refine sx_ ?_ <;> intro bb) | (refine su_ ?_ <;> intro u hu1 hu2) | fail)
  all_goals first | exact e1_ | skip
  ·refine ⟨_,[zx ws 35 u _],rl_,sl_,u,rfl, ?_⟩
   have e : (s && decide (y < h - 1)) = true:=by simp [hb]
   rw [e,h4]; simp [znh]
  ·refine ⟨_,[zx ws 35 u _],rl_,sl_,u,rfl, ?_⟩
   have e : (s && decide (y < h - 1)) = false:=by rcases hb with q | q <;> simp [q]
   rw [e,h4]; simp [znh]
theorem zaw {P : Program} {N : Fz} {d : Bool} {Q : kw} {fr : Fr} {M : List Own} {a : Own} {ops : Array Oper} {l : List Oper} (h : AL P T0 N d ops Q l fr (a :: M)) : AL P T0 N d ops Q l fr ([a] ++ M):=h
theorem ztr (c : Cmd) : qs [c] = xk c:=by simp [qs]
theorem zg6 (w h : Int) (l : List zi) (x y : Int) (b s : Bool) (X Y : Int) : AP Tryz.prog T0 57 [jb w h l x y b s,I X,I Y] (zt [vi (qq (w,h,l,x,y,b,s) X Y).1,I (qq (w,h,l,x,y,b,s) X Y).2]):=by
 have ci:=kd (T0:=T0) w h l x y b s
 have ct0:=zof (T0:=T0) w h l x y b s X Y
 have ctt : True:=trivial
 have ca : True:=trivial
 have cb : True:=trivial
 have cv : True:=trivial
 have cd : True:=trivial
 by_cases hn : vr w h l x y b s = true ∧ 0 ≤ X ∧ X < w ∧ 0 ≤ Y ∧ Y < h
 ·obtain ⟨ho,h1,h2,h3,h4⟩:=hn
  rw [ho] at ci
  have hs : qu w h = true:=by
   obtain ⟨w,h,rfl,rfl,w2,w3,w4,w5,_⟩:=qn.1 ho
   simp [qu]; omega
  have hs' : 2 ≤ w ∧ w ≤ 80 ∧ 1 ≤ h ∧ h ≤ 24:=by simpa [qu,and_assoc] using hs
  cases ht : zbx (w,h,l,x,y,b,s) X Y with
  |true =>
   rw [zbu (b:=(w,h,l,x,y,b,s)) ho ⟨h1,h2⟩ ⟨h3,h4⟩ ht]
   rw [ht] at ct0
   refine za Tryz.func57 rfl (by decide) Tryz.ntmps57 rfl ?_
   repeat' (first
   |refine z96 ?_ | (refine zb ?_ ?_ <;> intro hb <;> try exact no_) | (refine sx_ ?_ <;> intro bb) | (refine su_ ?_ <;> intro u hu1 hu2) | fail)
   all_goals first | (exfalso; simp at hb; done) | (exfalso; simp at hb; omega) | exact ⟨_,[],rl_,List.nil_sublist _,Sub.refl _,rfl⟩ | skip
  |false =>
   rw [← zsg (b:=(w,h,l,x,y,b,s)) ho ⟨h1,h2⟩ ⟨h3,h4⟩ ht]
   rw [ht] at ct0
   have ctt:=fun w h l x y b s=>zof (T0:=T0) w h l x y b s X Y
   have ca:=qa7 (T0:=T0) w h l x y b s X Y (by omega)
   have cb:=z80 (T0:=T0) w h l x y b s hs
   have hok2:=zpa (b:=(w,h,l,x,y,b,s)) ho
   dsimp only
   have hLok : ∀ c ∈ znh (s && decide (y < h - 1)) X Y,z9 c = true:=fun c hc=>zpj ⟨h1,by omega⟩ ⟨h3,by omega⟩ hc
   have hLen : (znh (s && decide (y < h - 1)) X Y).length ≤ 400:=by
    cases (s && decide (y < h - 1)) <;> simp [znh,za0]
   have hp : ∀ c,zy5 (w,h,l,x,y,b,s) X Y c = zbx (doB (zec (w,h,l,x,y,b,s)) c).1 X Y:=fun c=>rfl
   have cdo:=fun c=>zmb (T0:=T0) w h (zec (w,h,l,x,y,b,s)).2.2.1 x y b s c
   have cdo2 : ∀ c,z9 c = true → AP Tryz.prog T0 112 [blA (zec (w,h,l,x,y,b,s)),vi c] (zt [blA (doB (zec (w,h,l,x,y,b,s)) c).1,I 0]):=fun c hc=>(cdo c).to (by rw [← zxz hok2 hc]; rfl)
   clear cdo
   generalize zec (w,h,l,x,y,b,s) = BB at *
   generalize znh (s && decide (y < h - 1)) X Y = L at *
   generalize zy5 (w,h,l,x,y,b,s) X Y = p at *
   obtain ⟨st,hst⟩ : ∃ st : Nat → Cmd × Nat,st = fun k=>(L.take k).foldl (jq p) ((0,0,0,0),9):=⟨_,rfl⟩
   have st0 : st 0 = ((0,0,0,0),9):=by rw [hst]; simp
   have stS : ∀ k c,L[k]? = some c → st (k + 1) = jq p (st k) c:=fun k c hk=>by
    rw [hst]; simp only
    rw [List.take_add_one,hk,List.foldl_append]; rfl
   have stE : L.foldl (jq p) ((0,0,0,0),9) = st L.length:=by rw [hst]; simp
   rw [stE]
   clear hst stE
   obtain ⟨B1,B2,B3,B4,B5,B6,B7⟩:=BB
   refine za Tryz.func57 rfl (by decide) Tryz.ntmps57 rfl ?_
   repeat' (first
   |refine z96 ?_ | (refine zb ?_ ?_ <;> intro hb <;> try exact no_) | (refine sx_ ?_ <;> intro bb) | (refine su_ ?_ <;> intro u hu1 hu2) | fail)
   all_goals first | (exfalso; simp at hb; done) | (exfalso; simp at hb; omega) | skip
   refine zig (d:=fun k : Nat=>[(9,I (st k).2),(11,I k)]) (g:=fun k=>[I (st k).1.1,I (st k).1.2.1,I (st k).1.2.2.1,R (st k).1.2.2.2]) (fun k=>k ≤ L.length) (fun k=>L.length - k) 0 (Nat.zero_le _) ?_ ?_ (hf0:=by simp only [st0]; exact wk_)
   ·rw [st0]
   rintro k k1
   by_cases hlt : k < L.length
   ·obtain ⟨⟨k',a',d',r'⟩,hat⟩ : ∃ z,L[k]? = some z:=⟨_,List.getElem?_eq_getElem hlt⟩
    have hok:=hLok _ (List.mem_of_getElem? hat)
    have hS:=stS k _ hat
    have he : (L.drop k).take (k + 1 - k) = [(k',a',d',r')]:=by
     rw [show k + 1 - k = 1 by omega]
     obtain ⟨z1,z2⟩:=List.getElem?_eq_some_iff.1 hat
     rw [List.drop_eq_getElem_cons hlt,z2]; rfl
    have hlc:=wo (k',a',d',r')
    have cv : AP Tryz.prog T0 111 [slA ws ((L.drop k).take (k + 1 - k))] (I (xk (k',a',d',r'))):=by
     rw [he]; exact (vc [(k',a',d',r')] (by simp)).to (by rw [ztr])
    have cd:=cdo2 (k',a',d',r') hok
    have hpc:=hp (k',a',d',r')
    generalize (doB (B1,B2,B3,B4,B5,B6,B7) (k',a',d',r')).1 = Z at *
    obtain ⟨Z1,Z2,Z3,Z4,Z5,Z6,Z7⟩:=Z
    obtain ⟨⟨⟨q1,q2,q3,q4⟩,n⟩,hz0⟩ : ∃ z,z = st k:=⟨_,rfl⟩
    rw [← hz0] at hS ⊢
    unfold jq at hS
    rw [hpc] at hS
    by_cases hl : xk (k',a',d',r') < n
    ·by_cases hz : zbx (Z1,Z2,Z3,Z4,Z5,Z6,Z7) X Y = true
     ·rw [if_pos ⟨hl,hz⟩] at hS
      repeat' (first
      |(with_reducible refine zaw ?_) | (apply j7 10; (case hB=>decide +kernel); (case hn=>rfl); (case hg=>decide +kernel); (case hm=>kernel_rfl); (case hs=>rfl)) | refine zo5 ?_ | (refine um rfl rfl rfl rfl al_ ?_; intro bn) | (apply ul rfl rfl rfl; (case hx=>exact oo_); (case hz=>exact sz_); (case hy=>exact oo_); (case hc=>exact zx8); (case hl=>rfl); (case h1=>exact zlr); (case hU=>exact zdi); (case hs=>exact zh7)) | (apply z4g rfl rfl rfl; (case hy=>exact y_)) | refine z66 ?_ | (apply zm (by rfl) (by kernel_rfl) (by kernel_rfl)) | refine qat ?_ | (refine zb ?_ ?_ <;> intro hb <;> try exact no_) | (refine sx_ ?_ <;> intro bb) | (refine su_ ?_ <;> intro u hu1 hu2) | fail)
      all_goals first | (exfalso; omega) | (exfalso; simp [hz] at hb; done) | exact ⟨k + 1,by omega,by omega,by rw [hS]; exact wx_,by rw [hS]; exact sl_⟩ | skip
     ·rw [if_neg (fun q=>hz q.2)] at hS
      repeat' (first
      |(with_reducible refine zaw ?_) | (apply j7 10; (case hB=>decide +kernel); (case hn=>rfl); (case hg=>decide +kernel); (case hm=>kernel_rfl); (case hs=>rfl)) | refine zo5 ?_ | (refine um rfl rfl rfl rfl al_ ?_; intro bn) | (apply ul rfl rfl rfl; (case hx=>exact oo_); (case hz=>exact sz_); (case hy=>exact oo_); (case hc=>exact zx8); (case hl=>rfl); (case h1=>exact zlr); (case hU=>exact zdi); (case hs=>exact zh7)) | (apply z4g rfl rfl rfl; (case hy=>exact y_)) | refine z66 ?_ | (apply zm (by rfl) (by kernel_rfl) (by kernel_rfl)) | refine qat ?_ | (refine zb ?_ ?_ <;> intro hb <;> try exact no_) | (refine sx_ ?_ <;> intro bb) | (refine su_ ?_ <;> intro u hu1 hu2) | fail)
      all_goals first | (exfalso; omega) | (exfalso; simp [hz] at hb; done) | exact ⟨k + 1,by omega,by omega,by rw [hS]; exact wx_,by rw [hS]; exact sl_⟩ | skip
    ·rw [if_neg (fun q=>hl q.1)] at hS
     repeat' (first
     |(with_reducible refine zaw ?_) | (apply j7 10; (case hB=>decide +kernel); (case hn=>rfl); (case hg=>decide +kernel); (case hm=>kernel_rfl); (case hs=>rfl)) | refine zo5 ?_ | (refine um rfl rfl rfl rfl al_ ?_; intro bn) | (apply ul rfl rfl rfl; (case hx=>exact oo_); (case hz=>exact sz_); (case hy=>exact oo_); (case hc=>exact zx8); (case hl=>rfl); (case h1=>exact zlr); (case hU=>exact zdi); (case hs=>exact zh7)) | (apply z4g rfl rfl rfl; (case hy=>exact y_)) | refine z66 ?_ | (apply zm (by rfl) (by kernel_rfl) (by kernel_rfl)) | refine qat ?_ | (refine zb ?_ ?_ <;> intro hb <;> try exact no_) | (refine sx_ ?_ <;> intro bb) | (refine su_ ?_ <;> intro u hu1 hu2) | fail)
     all_goals first | (exfalso; omega) | exact ⟨k + 1,by omega,by omega,by rw [hS]; exact wx_,by rw [hS]; exact sl_⟩ | skip
   ·obtain rfl : k = L.length:=by omega
    generalize st L.length = z at *
    repeat' (first
    |refine z96 ?_ | (refine zb ?_ ?_ <;> intro hb <;> try exact no_) | (refine sx_ ?_ <;> intro bb) | (refine su_ ?_ <;> intro u hu1 hu2) | fail)
    all_goals first | exact e1_ | skip
    exact ⟨_,[],rl_,List.nil_sublist _,Sub.refl _,rfl⟩
 ·have e : qq (w,h,l,x,y,b,s) X Y = ((0,0,0,0),1):=by unfold qq; rw [if_pos hn]
  rw [e]
  generalize vr w h l x y b s = ok at *
  refine za Tryz.func57 rfl (by decide) Tryz.ntmps57 rfl ?_
  repeat' (first
  |refine z96 ?_ | (refine zb ?_ ?_ <;> intro hb <;> try exact no_) | (refine sx_ ?_ <;> intro bb) | (refine su_ ?_ <;> intro u hu1 hu2) | fail)
  all_goals first | exact ⟨_,[],rl_,List.nil_sublist _,Sub.refl _,rfl⟩ | (exfalso; rename_i z; exact hn ⟨z.1.1.1.1,by omega,by omega,by omega,by omega⟩) | skip
end Go.Proofs.YtgfmjmfphmjdkaaGreatDoor
