/- Several texts in one: see the comment ahead of each. No condition. -/
import Derived.Test.YtgfmjmfphmjdkaaGreatDoorR3ZV
import Derived.Lib.DecodeN
import Derived.Shelf.Unicode.DecodeAny
import Derived.Test.YtgfmjmfphmjdkaaGreatDoorR3ZB
set_option linter.unusedSimpArgs false
set_option linter.unusedVariables false
set_option linter.unusedSectionVars false
namespace Go.Proofs.YtgfmjmfphmjdkaaGreatDoor
set_option maxHeartbeats 4000000
section
open Go Go.RowKit
set_option maxRecDepth 100000
def bt (s : List UInt8) (j : Nat) : Nat:=((s[j]?).map UInt8.toNat).getD 0
theorem z01 (s : List UInt8) (j : Nat) : bt s j < 256:=by
 unfold bt
 cases h : s[j]? with
 |none=>simp
 |some b=>simpa using b.toNat_lt
theorem qas {s : List UInt8} {j : Nat} {b : UInt8} (h : s[j]? = some b) : bt s j = b.toNat:=by simp [bt,h]
theorem jo {n : Nat} (h : n < 256) : (UInt8.ofNat n).toNat = n:=by simp; omega
def zag (s : List UInt8) : Nat × Nat:=Go.Lib.decodeN s.length (bt s 0) (bt s 1) (bt s 2) (bt s 3)
def zls (n b0 b1 b2 : Nat) : Bool :=
 if n = 0 then false else if Go.Lib.firstT b0 % 8 ≤ n then true
 else if 1 < n ∧ (b1 < Go.Lib.accLo (Go.Lib.firstT b0 / 16) ∨ Go.Lib.accHi (Go.Lib.firstT b0 / 16) < b1) then true
 else if 2 < n ∧ (b2 < 128 ∨ 191 < b2) then true else false
def zb3 (s : List UInt8) : Bool:=zls s.length (bt s 0) (bt s 1) (bt s 2)
def z1f (s : List UInt8) : Prop:=s ≠ [] ∧ ∃ r,isG r = true ∧ s.length < (yu r).length ∧ s = (yu r).take s.length
theorem w6 {r : Int} : isG r = true ↔ 0 ≤ r ∧ r ≤ 1114111 ∧ ¬ (55296 ≤ r ∧ r ≤ 57343):=by simp [isG]; omega
theorem yn (b : UInt8) (s : List UInt8) : bt (b :: s) 0 = b.toNat:=rfl
theorem zc9 (a b : UInt8) (s : List UInt8) : bt (a :: b :: s) 1 = b.toNat:=rfl
theorem zkl (a b c : UInt8) (s : List UInt8) : bt (a :: b :: c :: s) 2 = c.toNat:=rfl
theorem z02 (a b c d : UInt8) (s : List UInt8) : bt (a :: b :: c :: d :: s) 3 = d.toNat:=rfl
theorem zl2 {r : Int} (h : isG r = true) : ∃ n : Nat,r = n ∧ n ≤ 1114111 ∧ ¬ (55296 ≤ n ∧ n ≤ 57343) ∧
  ((n < 128 ∧ yu r = [UInt8.ofNat n]) ∨ (128 ≤ n ∧ n < 2048 ∧ yu r = [UInt8.ofNat (192 + n / 64),UInt8.ofNat (128 + n % 64)])
  ∨ (2048 ≤ n ∧ n < 65536 ∧ yu r = [UInt8.ofNat (224 + n / 4096),UInt8.ofNat (128 + n / 64 % 64),UInt8.ofNat (128 + n % 64)])
  ∨ (65536 ≤ n ∧ yu r = [UInt8.ofNat (240 + n / 262144),UInt8.ofNat (128 + n / 4096 % 64),UInt8.ofNat (128 + n / 64 % 64),UInt8.ofNat (128 + n % 64)])):=by
 have h2:=w6.1 h
 obtain ⟨n,rfl⟩:=Int.eq_ofNat_of_zero_le h2.1
 refine ⟨n,rfl,by omega,by omega, ?_⟩
 unfold yu
 by_cases h1 : n < 128
 ·exact .inl ⟨h1,by rw [if_pos (by omega)]; rfl⟩
 ·by_cases h2 : n < 2048
  ·exact .inr (.inl ⟨by omega,h2,by rw [if_neg (by omega),if_pos (by omega)]; rfl⟩)
  ·by_cases h3 : n < 65536
   ·exact .inr (.inr (.inl ⟨by omega,h3,by rw [if_neg (by omega),if_neg (by omega),if_pos (by omega)]; rfl⟩))
   ·exact .inr (.inr (.inr ⟨by omega,by rw [if_neg (by omega),if_neg (by omega),if_neg (by omega)]; rfl⟩))
theorem zkd {r : Int} (h : isG r = true) (t : List UInt8) : (((zag (yu r ++ t)).1 : Nat) : Int) = r ∧ (zag (yu r ++ t)).2 = (yu r).length:=by
 obtain ⟨n,rfl,hn,hs,hc⟩:=zl2 h
 rcases hc with ⟨h1,e⟩ | ⟨h1,h2,e⟩ | ⟨h1,h2,e⟩ | ⟨h1,e⟩ <;> rw [e]
 ·have e0 : bt ([UInt8.ofNat n] ++ t) 0 = n:=by rw [List.cons_append,yn,jo (by omega)]
  unfold zag Go.Lib.decodeN
  rw [e0,if_pos h1]; exact ⟨rfl,rfl⟩
 ·have e0 : bt ([UInt8.ofNat (192 + n / 64),UInt8.ofNat (128 + n % 64)] ++ t) 0 = 192 + n / 64:=by rw [List.cons_append,yn,jo (by omega)]
  have e1 : bt ([UInt8.ofNat (192 + n / 64),UInt8.ofNat (128 + n % 64)] ++ t) 1 = 128 + n % 64:=by rw [List.cons_append,List.cons_append,zc9,jo (by omega)]
  unfold zag Go.Lib.decodeN
  rw [e0,e1,if_neg (by omega),if_pos ⟨by omega,by simp,by omega⟩,if_pos (by omega)]
  refine ⟨?_,rfl⟩; simp only; omega
 ·have e0 : bt ([UInt8.ofNat (224 + n / 4096),UInt8.ofNat (128 + n / 64 % 64),UInt8.ofNat (128 + n % 64)] ++ t) 0 = 224 + n / 4096:=by rw [List.cons_append,yn,jo (by omega)]
  have e1 : bt ([UInt8.ofNat (224 + n / 4096),UInt8.ofNat (128 + n / 64 % 64),UInt8.ofNat (128 + n % 64)] ++ t) 1 = 128 + n / 64 % 64:=by rw [List.cons_append,List.cons_append,zc9,jo (by omega)]
  have e2 : bt ([UInt8.ofNat (224 + n / 4096),UInt8.ofNat (128 + n / 64 % 64),UInt8.ofNat (128 + n % 64)] ++ t) 2 = 128 + n % 64:=by rw [List.cons_append,List.cons_append,List.cons_append,zkl,jo (by omega)]
  unfold zag Go.Lib.decodeN
  rw [e0,e1,e2,if_neg (by omega),if_neg (by omega),if_pos ⟨by omega,⟨by simp,by omega⟩,by simp,by omega⟩,if_pos (by omega)]
  refine ⟨?_,rfl⟩; simp only; omega
 ·have e0 : bt ([UInt8.ofNat (240 + n / 262144),UInt8.ofNat (128 + n / 4096 % 64),UInt8.ofNat (128 + n / 64 % 64),UInt8.ofNat (128 + n % 64)] ++ t) 0 = 240 + n / 262144:=by rw [List.cons_append,yn,jo (by omega)]
  have e1 : bt ([UInt8.ofNat (240 + n / 262144),UInt8.ofNat (128 + n / 4096 % 64),UInt8.ofNat (128 + n / 64 % 64),UInt8.ofNat (128 + n % 64)] ++ t) 1 = 128 + n / 4096 % 64:=by rw [List.cons_append,List.cons_append,zc9,jo (by omega)]
  have e2 : bt ([UInt8.ofNat (240 + n / 262144),UInt8.ofNat (128 + n / 4096 % 64),UInt8.ofNat (128 + n / 64 % 64),UInt8.ofNat (128 + n % 64)] ++ t) 2 = 128 + n / 64 % 64:=by rw [List.cons_append,List.cons_append,List.cons_append,zkl,jo (by omega)]
  have e3 : bt ([UInt8.ofNat (240 + n / 262144),UInt8.ofNat (128 + n / 4096 % 64),UInt8.ofNat (128 + n / 64 % 64),UInt8.ofNat (128 + n % 64)] ++ t) 3 = 128 + n % 64:=by rw [List.cons_append,List.cons_append,List.cons_append,List.cons_append,z02,jo (by omega)]
  unfold zag Go.Lib.decodeN
  rw [e0,e1,e2,e3,if_neg (by omega),if_neg (by omega),if_neg (by omega),if_pos ⟨by omega,⟨by simp,by omega⟩,⟨by simp,by omega⟩,by simp,by omega⟩,if_pos (by omega)]
  refine ⟨?_,rfl⟩; simp only; omega
theorem zqk {s : List UInt8} (h : 0 < s.length) : s.take 1 = [UInt8.ofNat (bt s 0)]:=by
 obtain ⟨a,t,rfl⟩ : ∃ a t,s = a :: t:=by cases s with | nil=>simp at h | cons a t=>exact ⟨a,t,rfl⟩
 simp [bt]
theorem z2z {s : List UInt8} (h : 1 < s.length) : s.take 2 = [UInt8.ofNat (bt s 0),UInt8.ofNat (bt s 1)]:=by
 match s,h with
 |a :: b :: t,_=>simp [bt]
theorem z6c {s : List UInt8} (h : 2 < s.length) : s.take 3 = [UInt8.ofNat (bt s 0),UInt8.ofNat (bt s 1),UInt8.ofNat (bt s 2)]:=by
 match s,h with
 |a :: b :: c :: t,_=>simp [bt]
theorem z9z {s : List UInt8} (h : 3 < s.length) : s.take 4 = [UInt8.ofNat (bt s 0),UInt8.ofNat (bt s 1),UInt8.ofNat (bt s 2),UInt8.ofNat (bt s 3)]:=by
 match s,h with
 |a :: b :: c :: d :: t,_=>simp [bt]
theorem zsp {n : Nat} : (n < 128 → yu (n : Int) = [UInt8.ofNat n]) ∧ (128 ≤ n → n < 2048 → yu (n : Int) = [UInt8.ofNat (192 + n / 64),UInt8.ofNat (128 + n % 64)])
  ∧ (2048 ≤ n → n < 65536 → yu (n : Int) = [UInt8.ofNat (224 + n / 4096),UInt8.ofNat (128 + n / 64 % 64),UInt8.ofNat (128 + n % 64)])
  ∧ (65536 ≤ n → yu (n : Int) = [UInt8.ofNat (240 + n / 262144),UInt8.ofNat (128 + n / 4096 % 64),UInt8.ofNat (128 + n / 64 % 64),UInt8.ofNat (128 + n % 64)]):=by
 unfold yu
 refine ⟨fun h=>by rw [if_pos (by omega)]; rfl,fun h h2=>by rw [if_neg (by omega),if_pos (by omega)]; rfl,fun h h2=>by rw [if_neg (by omega),if_neg (by omega),if_pos (by omega)]; rfl,fun h=>by rw [if_neg (by omega),if_neg (by omega),if_neg (by omega)]; rfl⟩
theorem z_p {a b a' b' : Nat} (h1 : a = a') (h2 : b = b') : [UInt8.ofNat a,UInt8.ofNat b] = [UInt8.ofNat a',UInt8.ofNat b']:=by rw [h1,h2]
theorem qa2 {a b c a' b' c' : Nat} (h1 : a = a') (h2 : b = b') (h3 : c = c') : [UInt8.ofNat a,UInt8.ofNat b,UInt8.ofNat c] = [UInt8.ofNat a',UInt8.ofNat b',UInt8.ofNat c']:=by rw [h1,h2,h3]
theorem qc2 {a b c d a' b' c' d' : Nat} (h1 : a = a') (h2 : b = b') (h3 : c = c') (h4 : d = d') : [UInt8.ofNat a,UInt8.ofNat b,UInt8.ofNat c,UInt8.ofNat d] = [UInt8.ofNat a',UInt8.ofNat b',UInt8.ofNat c',UInt8.ofNat d']:=by rw [h1,h2,h3,h4]
theorem zl6 {s : List UInt8} (h : s ≠ []) : zag s = (65533,1) ∨ (isG ((zag s).1 : Nat) = true ∧ (zag s).2 ≤ s.length ∧ s.take (zag s).2 = yu ((zag s).1 : Nat)):=by
 have hp : 0 < s.length:=List.length_pos_iff.2 h
 have q0:=z01 s 0
 have q1:=z01 s 1
 have q2:=z01 s 2
 have q3:=z01 s 3
 unfold zag Go.Lib.decodeN
 split
 ·rename_i h0
  right
  exact ⟨w6.2 (by omega),by omega,by rw [zsp.1 h0]; exact zqk hp⟩
 ·split
  ·rename_i h0 h1
   split
   ·rename_i h2
    right
    refine ⟨w6.2 (by simp only; omega),by simp only; omega, ?_⟩
    simp only
    rw [zsp.2.1 (by omega) (by omega),z2z (by omega)]
    exact z_p (by omega) (by omega)
   ·exact .inl rfl
  ·split
   ·rename_i h0 h1 h3
    split
    ·rename_i h2
     right
     refine ⟨w6.2 (by simp only; omega),by simp only; omega, ?_⟩
     simp only
     rw [zsp.2.2.1 (by omega) (by omega),z6c (by omega)]
     exact qa2 (by omega) (by omega) (by omega)
    ·exact .inl rfl
   ·split
    ·rename_i h0 h1 h3 h4
     split
     ·rename_i h2
      right
      refine ⟨w6.2 (by simp only; omega),by simp only; omega, ?_⟩
      simp only
      rw [zsp.2.2.2 (by omega),z9z (by omega)]
      exact qc2 (by omega) (by omega) (by omega) (by omega)
     ·exact .inl rfl
    ·exact .inl rfl
end
section
open Go Go.RowKit
set_option maxRecDepth 100000
theorem zd2 (b : Nat) : (b < 128 ∧ Go.Lib.firstT b = 240) ∨ (128 ≤ b ∧ b < 194 ∧ Go.Lib.firstT b = 241) ∨ (194 ≤ b ∧ b < 224 ∧ Go.Lib.firstT b = 2) ∨ (b = 224 ∧ Go.Lib.firstT b = 19) ∨ (225 ≤ b ∧ b < 237 ∧ Go.Lib.firstT b = 3)
  ∨ (b = 237 ∧ Go.Lib.firstT b = 35) ∨ (238 ≤ b ∧ b < 240 ∧ Go.Lib.firstT b = 3) ∨ (b = 240 ∧ Go.Lib.firstT b = 52) ∨ (241 ≤ b ∧ b < 244 ∧ Go.Lib.firstT b = 4) ∨ (b = 244 ∧ Go.Lib.firstT b = 68) ∨ (245 ≤ b ∧ Go.Lib.firstT b = 241):=by
 unfold Go.Lib.firstT
 repeat' split
 all_goals omega
theorem z9r : Go.Lib.accLo 0 = 128 ∧ Go.Lib.accHi 0 = 191:=⟨rfl,rfl⟩
theorem z9q : Go.Lib.accLo 1 = 160 ∧ Go.Lib.accHi 1 = 191:=⟨rfl,rfl⟩
theorem z9p : Go.Lib.accLo 2 = 128 ∧ Go.Lib.accHi 2 = 159:=⟨rfl,rfl⟩
theorem z9o : Go.Lib.accLo 3 = 144 ∧ Go.Lib.accHi 3 = 191:=⟨rfl,rfl⟩
theorem z9n : Go.Lib.accLo 4 = 128 ∧ Go.Lib.accHi 4 = 143:=⟨rfl,rfl⟩
theorem zgw {n b0 b1 b2 : Nat} (h : zls n b0 b1 b2 = false) (hn : n ≠ 0) :
  (194 ≤ b0 ∧ b0 < 224 ∧ n = 1) ∨ (224 ≤ b0 ∧ b0 < 240 ∧ (n = 1 ∨ (n = 2 ∧ 128 ≤ b1 ∧ b1 ≤ 191 ∧ (b0 = 224 → 160 ≤ b1) ∧ (b0 = 237 → b1 ≤ 159))))
  ∨ (240 ≤ b0 ∧ b0 < 245 ∧ (n = 1 ∨ ((n = 2 ∨ (n = 3 ∧ 128 ≤ b2 ∧ b2 ≤ 191)) ∧ 128 ≤ b1 ∧ b1 ≤ 191 ∧ (b0 = 240 → 144 ≤ b1) ∧ (b0 = 244 → b1 ≤ 143)))):=by
 unfold zls at h
 rw [if_neg hn] at h
 rcases zd2 b0 with ⟨r,e⟩ | ⟨r,r',e⟩ | ⟨r,r',e⟩ | ⟨r,e⟩ | ⟨r,r',e⟩ | ⟨r,e⟩ | ⟨r,r',e⟩ | ⟨r,e⟩ | ⟨r,r',e⟩ | ⟨r,e⟩ | ⟨r,e⟩ <;> rw [e] at h <;>
  simp only [show 240 % 8 = 0 from rfl,show 241 % 8 = 1 from rfl,show 2 % 8 = 2 from rfl,show 19 % 8 = 3 from rfl,show 3 % 8 = 3 from rfl,show 35 % 8 = 3 from rfl,show 52 % 8 = 4 from rfl,show 4 % 8 = 4 from rfl,show 68 % 8 = 4 from rfl,
   show 2 / 16 = 0 from rfl,show 19 / 16 = 1 from rfl,show 3 / 16 = 0 from rfl,show 35 / 16 = 2 from rfl,show 52 / 16 = 3 from rfl,show 4 / 16 = 0 from rfl,show 68 / 16 = 4 from rfl,z9r.1,z9r.2,z9q.1,z9q.2,z9p.1,z9p.2,z9o.1,z9o.2,z9n.1,z9n.2] at h <;>
  (split at h
   ·cases h
   ·split at h
    ·cases h
    ·split at h
     ·cases h
     ·omega)
theorem zrd {n b0 b1 b2 : Nat} (h : (194 ≤ b0 ∧ b0 < 224 ∧ n = 1) ∨ (224 ≤ b0 ∧ b0 < 240 ∧ (n = 1 ∨ (n = 2 ∧ 128 ≤ b1 ∧ b1 ≤ 191 ∧ (b0 = 224 → 160 ≤ b1) ∧ (b0 = 237 → b1 ≤ 159))))
  ∨ (240 ≤ b0 ∧ b0 < 245 ∧ (n = 1 ∨ ((n = 2 ∨ (n = 3 ∧ 128 ≤ b2 ∧ b2 ≤ 191)) ∧ 128 ≤ b1 ∧ b1 ≤ 191 ∧ (b0 = 240 → 144 ≤ b1) ∧ (b0 = 244 → b1 ≤ 143))))) : zls n b0 b1 b2 = false:=by
 unfold zls
 rw [if_neg (by omega)]
 rcases zd2 b0 with ⟨r,e⟩ | ⟨r,r',e⟩ | ⟨r,r',e⟩ | ⟨r,e⟩ | ⟨r,r',e⟩ | ⟨r,e⟩ | ⟨r,r',e⟩ | ⟨r,e⟩ | ⟨r,r',e⟩ | ⟨r,e⟩ | ⟨r,e⟩ <;> rw [e] <;>
  simp only [show 240 % 8 = 0 from rfl,show 241 % 8 = 1 from rfl,show 2 % 8 = 2 from rfl,show 19 % 8 = 3 from rfl,show 3 % 8 = 3 from rfl,show 35 % 8 = 3 from rfl,show 52 % 8 = 4 from rfl,show 4 % 8 = 4 from rfl,show 68 % 8 = 4 from rfl,
   show 2 / 16 = 0 from rfl,show 19 / 16 = 1 from rfl,show 3 / 16 = 0 from rfl,show 35 / 16 = 2 from rfl,show 52 / 16 = 3 from rfl,show 4 / 16 = 0 from rfl,show 68 / 16 = 4 from rfl,z9r.1,z9r.2,z9q.1,z9q.2,z9p.1,z9p.2,z9o.1,z9o.2,z9n.1,z9n.2] <;>
  first
  |(exfalso; omega)
  |(rw [if_neg (by omega),if_neg (by omega),if_neg (by omega)])
theorem z_q {a a' : Nat} (h1 : a = a') : [UInt8.ofNat a] = [UInt8.ofNat a']:=by rw [h1]
theorem zac {s : List UInt8} (h : s ≠ []) (hf : zb3 s = false) : z1f s:=by
 have hp : 0 < s.length:=List.length_pos_iff.2 h
 have key : ∀ r : Nat,isG (r : Int) = true → s.length < (yu r).length → s = (yu r).take s.length → z1f s:=fun r a b c=>⟨h,r,a,b,c⟩
 have whole : s.take s.length = s:=List.take_length
 rcases zgw hf (by omega) with ⟨a,b,n1⟩ | ⟨a,b,n1 | ⟨n2,c1,c2,c3,c4⟩⟩ | ⟨a,b,n1 | ⟨n2,c1,c2,c3,c4⟩⟩
 ·have e:=zsp (n:=(bt s 0 - 192) * 64)
  refine key ((bt s 0 - 192) * 64) (w6.2 (by omega)) (by rw [e.2.1 (by omega) (by omega),n1]; simp) ?_
  refine whole.symm.trans ?_
  rw [n1,zqk hp,e.2.1 (by omega) (by omega)]
  simp only [List.take_succ_cons,List.take_zero]
  exact z_q (by omega)
 ·by_cases h0 : bt s 0 = 224
  ·have e:=zsp (n:=2048)
   refine key 2048 (by decide) (by rw [e.2.2.1 (by omega) (by omega),n1]; simp) ?_
   refine whole.symm.trans ?_
   rw [n1,zqk hp,h0,e.2.2.1 (by omega) (by omega)]; rfl
  ·have e:=zsp (n:=(bt s 0 - 224) * 4096)
   refine key ((bt s 0 - 224) * 4096) (w6.2 (by omega)) (by rw [e.2.2.1 (by omega) (by omega),n1]; simp) ?_
   refine whole.symm.trans ?_
   rw [n1,zqk hp,e.2.2.1 (by omega) (by omega)]
   simp only [List.take_succ_cons,List.take_zero]
   exact z_q (by omega)
 ·have e:=zsp (n:=(bt s 0 - 224) * 4096 + (bt s 1 - 128) * 64)
  refine key ((bt s 0 - 224) * 4096 + (bt s 1 - 128) * 64) (w6.2 (by omega)) (by rw [e.2.2.1 (by omega) (by omega),n2]; simp) ?_
  refine whole.symm.trans ?_
  rw [n2,z2z (by omega),e.2.2.1 (by omega) (by omega)]
  simp only [List.take_succ_cons,List.take_zero]
  exact z_p (by omega) (by omega)
 ·by_cases h0 : bt s 0 = 240
  ·have e:=zsp (n:=65536)
   refine key 65536 (by decide) (by rw [e.2.2.2 (by omega),n1]; simp) ?_
   refine whole.symm.trans ?_
   rw [n1,zqk hp,h0,e.2.2.2 (by omega)]; rfl
  ·have e:=zsp (n:=(bt s 0 - 240) * 262144)
   refine key ((bt s 0 - 240) * 262144) (w6.2 (by omega)) (by rw [e.2.2.2 (by omega),n1]; simp) ?_
   refine whole.symm.trans ?_
   rw [n1,zqk hp,e.2.2.2 (by omega)]
   simp only [List.take_succ_cons,List.take_zero]
   exact z_q (by omega)
 ·rcases n2 with n2 | ⟨n3,d1,d2⟩
  ·have e:=zsp (n:=(bt s 0 - 240) * 262144 + (bt s 1 - 128) * 4096)
   refine key ((bt s 0 - 240) * 262144 + (bt s 1 - 128) * 4096) (w6.2 (by omega)) (by rw [e.2.2.2 (by omega),n2]; simp) ?_
   refine whole.symm.trans ?_
   rw [n2,z2z (by omega),e.2.2.2 (by omega)]
   simp only [List.take_succ_cons,List.take_zero]
   exact z_p (by omega) (by omega)
  ·have e:=zsp (n:=(bt s 0 - 240) * 262144 + (bt s 1 - 128) * 4096 + (bt s 2 - 128) * 64)
   refine key ((bt s 0 - 240) * 262144 + (bt s 1 - 128) * 4096 + (bt s 2 - 128) * 64) (w6.2 (by omega)) (by rw [e.2.2.2 (by omega),n3]; simp) ?_
   refine whole.symm.trans ?_
   rw [n3,z6c (by omega),e.2.2.2 (by omega)]
   simp only [List.take_succ_cons,List.take_zero]
   exact qa2 (by omega) (by omega) (by omega)
theorem zez {s : List UInt8} (h : z1f s) : zb3 s = false:=by
 obtain ⟨h0,r,hr,hl,he⟩:=h
 have hp : 0 < s.length:=List.length_pos_iff.2 h0
 obtain ⟨n,rfl,hn,hs,hc⟩:=zl2 hr
 have b : ∀ j,j < s.length → bt s j = bt (yu (n : Int)) j:=fun j hj=>by
  have : s[j]? = (yu (n : Int))[j]?:=by
   rw [he,List.getElem?_take,if_pos hj]
  rw [bt,bt,this]
 apply zrd
 rcases hc with ⟨h1,e⟩ | ⟨h1,h2,e⟩ | ⟨h1,h2,e⟩ | ⟨h1,e⟩ <;> rw [e] at hl b
 ·simp only [List.length_cons,List.length_nil] at hl; omega
 ·simp only [List.length_cons,List.length_nil] at hl
  have b0:=b 0 (by omega)
  rw [yn,jo (by omega)] at b0
  omega
 ·simp only [List.length_cons,List.length_nil] at hl
  have b0:=b 0 (by omega)
  rw [yn,jo (by omega)] at b0
  by_cases hl2 : s.length = 2
  ·have b1:=b 1 (by omega)
   rw [zc9,jo (by omega)] at b1
   omega
  ·omega
 ·simp only [List.length_cons,List.length_nil] at hl
  have b0:=b 0 (by omega)
  rw [yn,jo (by omega)] at b0
  by_cases hl2 : s.length = 1
  ·omega
  ·have b1:=b 1 (by omega)
   rw [zc9,jo (by omega)] at b1
   by_cases hl3 : s.length = 2
   ·omega
   ·have b2:=b 2 (by omega)
    rw [zkl,jo (by omega)] at b2
    omega
theorem zz1 {r : Int} (h : isG r = true) (t : List UInt8) : zb3 (yu r ++ t) = true:=by
 cases hf : zb3 (yu r ++ t) with
 |true=>rfl
 |false =>
  exfalso
  have hl:=zj_ r
  obtain ⟨h0,r',hr',hl',he⟩:=zac (by intro e; rw [List.append_eq_nil_iff] at e; rw [e.1] at hl; simp at hl) hf
  have d1:=zkd h []
  have d2:=zkd hr' []
  have e2 : yu r' = (yu r ++ t) ++ (yu r').drop (yu r ++ t).length:=by
   conv=>lhs; rw [← List.take_append_drop (yu r ++ t).length (yu r'),← he]
  have d3:=zkd h (t ++ (yu r').drop (yu r ++ t).length)
  rw [← List.append_assoc,← e2] at d3
  rw [List.append_nil] at d2
  have : (yu r).length = (yu r').length:=by rw [← d3.2,← d2.2]
  rw [List.length_append] at hl'
  omega
end
section
open Go Go.RowKit
set_option maxRecDepth 100000
inductive Shape : Cmd → List UInt8 → Prop
 |text (n : Nat) (hs : ja n = true) : Shape (1,0,0,n) (yu n)
 |go (a b : Nat) (ha : a ≤ 23) (hb : b ≤ 79) : Shape (2,a,b,0) (27 :: 91 :: (v8 (a + 1) ++ 59 :: (v8 (b + 1) ++ [72])))
 |one (k : Nat) (hk : 3 ≤ k ∧ k ≤ 6) : Shape (k,1,0,0) [27,91,UInt8.ofNat (62 + k)]
 |move (k a : Nat) (hk : 3 ≤ k ∧ k ≤ 6) (ha : 2 ≤ a ∧ a ≤ 80) : Shape (k,a,0,0) (27 :: 91 :: (v8 a ++ [UInt8.ofNat (62 + k)]))
 |form (k : Nat) (hk : 7 ≤ k ∧ k ≤ 12) : Shape (k,0,0,0) (zgz k)
theorem zjg {c : Cmd} (h : z9 c = true) : Shape c (q9 c):=by
 obtain ⟨k,a,b,r⟩:=c
 have h0:=h
 simp only [z9] at h
 by_cases h1 : k = 1
 ·subst h1
  simp at h
  obtain ⟨⟨hs,rfl⟩,rfl⟩:=h
  have hg:=wz hs
  have hr : 0 ≤ r:=by simp [isG] at hg; omega
  obtain ⟨n,rfl⟩:=Int.eq_ofNat_of_zero_le hr
  simp only [q9,if_true]
  rw [zka hg]; exact .text n hs
 ·rw [if_neg h1] at h
  by_cases h2 : k = 2
  ·subst h2
   simp at h
   obtain ⟨rfl,⟨⟨h3,h4⟩,h5⟩,h6⟩:=h
   obtain ⟨a,rfl⟩:=Int.eq_ofNat_of_zero_le h3
   obtain ⟨b,rfl⟩:=Int.eq_ofNat_of_zero_le h5
   have : q9 (2,(a : Int),(b : Int),0) = 27 :: 91 :: (v8 (a + 1) ++ 59 :: (v8 (b + 1) ++ [72])):=by
    simp [q9,show ((a : Int) + 1).toNat = a + 1 by omega,show ((b : Int) + 1).toNat = b + 1 by omega]
   rw [this]; exact .go a b (by omega) (by omega)
  ·rw [if_neg h2] at h
   by_cases h3 : 3 ≤ k ∧ k ≤ 6
   ·rw [if_pos h3] at h
    simp at h
    obtain ⟨rfl,rfl,h4,h5⟩:=h
    obtain ⟨k,rfl⟩:=Int.eq_ofNat_of_zero_le (show 0 ≤ k by omega)
    obtain ⟨a,rfl⟩:=Int.eq_ofNat_of_zero_le (show 0 ≤ a by omega)
    have e1 : (62 + (k : Int)).toNat = 62 + k:=by omega
    by_cases h6 : a = 1
    ·subst h6
     have : q9 ((k : Int),1,0,0) = [27,91,UInt8.ofNat (62 + k)]:=by
      simp only [q9]; rw [if_neg h1,if_neg h2,if_pos (by omega),if_pos trivial,e1]; rfl
     show Shape ((k : Int),1,0,0) (q9 ((k : Int),1,0,0))
     rw [this]; exact .one k (by omega)
    ·have : q9 ((k : Int),(a : Int),0,0) = 27 :: 91 :: (v8 a ++ [UInt8.ofNat (62 + k)]):=by
      simp only [q9]; rw [if_neg h1,if_neg h2,if_pos (by omega),if_neg (by omega),e1]; rfl
     rw [this]; exact .move k a (by omega) (by omega)
   ·rw [if_neg h3] at h
    simp at h
    obtain ⟨rfl,rfl,⟨h4,h5⟩,rfl⟩:=h
    obtain ⟨k,rfl⟩:=Int.eq_ofNat_of_zero_le (show 0 ≤ k by omega)
    have : q9 ((k : Int),0,0,0) = zgz k:=by
     simp only [q9]; rw [if_neg h1,if_neg h2,if_neg (by omega)]
    rw [this]; exact .form k (by omega)
theorem z0o {n : Nat} (hs : ja n = true) : ∃ x l,yu n = x :: l ∧ 32 ≤ x.toNat:=by
 have hg:=wz hs
 have h1 : n ≤ 1114111:=by simp [isG] at hg; omega
 have h2 : 32 ≤ n:=by simp [ja] at hs; omega
 unfold yu
 (repeat' split) <;> exact ⟨_,_,rfl,by simp; omega⟩
theorem zp0 {n : Nat} (h : n < 100) : ∃ x l,v8 n = x :: l ∧ 48 ≤ x.toNat ∧ x.toNat ≤ 57:=by
 unfold v8; split <;> exact ⟨_,_,rfl,by simp; omega,by simp; omega⟩
theorem zua {k : Nat} (hk : 3 ≤ k ∧ k ≤ 6) : 65 ≤ (UInt8.ofNat (62 + k)).toNat ∧ (UInt8.ofNat (62 + k)).toNat ≤ 68:=by simp; omega
end
section
open Go Go.RowKit
set_option maxRecDepth 100000
abbrev Sc:=Int × Cmd × List UInt8
abbrev dig (b : UInt8) : Prop:=48 ≤ b.toNat ∧ b.toNat ≤ 57
def zai (most : Nat) : Nat → List UInt8 → Int × Nat × List UInt8
 |_,[]=>(3,0,[])
 |n,b :: l=>if dig b then (if n * 10 + (b.toNat - 48) = 0 ∨ most < n * 10 + (b.toNat - 48) then (2,0,[]) else zai most (n * 10 + (b.toNat - 48)) l) else if n = 0 then (2,0,[]) else (0,n,b :: l)
def nok (e : Int) : Sc:=(e,(0,0,0,0),[])
def zhb (is : Bool) (n : Nat) : List UInt8 → Sc
 |[]=>nok 3
 |b :: l=>if 65 ≤ b.toNat ∧ b.toNat ≤ 68 then (0,(((b.toNat - 62 : Nat) : Int),(n : Int),0,0),l)
  else if b.toNat ≠ 59 ∨ 24 < n ∨ is = false then nok 2
  else match zai 80 0 l with
   |(0,m,b2 :: l2)=>if b2.toNat = 72 then (0,(2,(n : Int) - 1,(m : Int) - 1,0),l2) else nok 2
   |(0,_,[])=>nok 3
   |(e,_,_)=>nok e
def zem : List UInt8 → Sc
 |[]=>nok 3
 |b :: l=>if dig b then (match zai 80 0 (b :: l) with
    |(0,n,b2 :: l2)=>if n = 1 ∧ b2.toNat ≠ 59 then nok 2 else zhb true n (b2 :: l2)
    |(0,_,[])=>nok 3
    |(e,_,_)=>nok e)
  else if b.toNat = 75 then (0,(7,0,0,0),l) else if b.toNat = 74 then (0,(8,0,0,0),l) else zhb false 1 (b :: l)
def zaw (b : Nat) : Int:=if b = 13 then 9 else if b = 10 then 10 else if b = 8 then 11 else if b = 7 then 12 else 0
def zdi : List UInt8 → Sc
 |[]=>nok 3
 |b :: l=>if zaw b.toNat ≠ 0 then (0,(zaw b.toNat,0,0,0),l)
  else if b.toNat = 27 then (match l with
   |[]=>nok 3
   |x :: l2=>if x.toNat = 91 then zem l2 else nok 2)
  else if zb3 (b :: l) = false then nok 3
  else if zag (b :: l) = (65533,1) ∨ ja ((zag (b :: l)).1 : Nat) = false then nok 2
  else (0,(1,0,0,((zag (b :: l)).1 : Nat)),(b :: l).drop (zag (b :: l)).2)
def zof (s : List UInt8) : Prop:=z1f s ∨ (s ≠ [] ∧ ∃ c l,Shape c l ∧ c.1 ≠ 1 ∧ s.length < l.length ∧ s = l.take s.length)
theorem ug {k : Nat} (h : k < 10) : dig (UInt8.ofNat (48 + k)) ∧ (UInt8.ofNat (48 + k)).toNat - 48 = k:=by
 unfold dig; have : (UInt8.ofNat (48 + k)).toNat = 48 + k:=by simp; omega
 omega
theorem z1q {b : UInt8} (h : dig b) : b = UInt8.ofNat (48 + (b.toNat - 48)):=by
 rw [← UInt8.toNat_inj]
 unfold dig at h
 simp; omega
theorem zas (most n : Nat) (b : UInt8) (l : List UInt8) : zai most n (b :: l) = if dig b then (if n * 10 + (b.toNat - 48) = 0 ∨ most < n * 10 + (b.toNat - 48) then (2,0,[]) else zai most (n * 10 + (b.toNat - 48)) l) else if n = 0 then (2,0,[]) else (0,n,b :: l):=rfl
theorem zfg {most : Nat} (hm : most ≤ 99) : ∀ (l : List UInt8),(∃ k m,1 ≤ m ∧ m ≤ most ∧ l = (v8 m).take k ∧ k ≤ (v8 m).length ∧ zai most 0 l = (3,0,[]))
  ∨ (∃ m b t,1 ≤ m ∧ m ≤ most ∧ l = v8 m ++ b :: t ∧ ¬ dig b ∧ zai most 0 l = (0,m,b :: t))
  ∨ zai most 0 l = (2,0,[]) ∨ most = 0
 |[]=>by
  by_cases h : most = 0
  ·exact .inr (.inr (.inr h))
  ·exact .inl ⟨0,1,by omega,by omega,by simp,by simp,rfl⟩
 |b :: l=>by
  by_cases h0 : most = 0
  ·exact .inr (.inr (.inr h0))
  by_cases hb : dig b
  ·have hb':=hb
   unfold dig at hb'
   have e1 : zai most 0 (b :: l) = if 0 * 10 + (b.toNat - 48) = 0 ∨ most < 0 * 10 + (b.toNat - 48) then (2,0,[]) else zai most (0 * 10 + (b.toNat - 48)) l:=by rw [zai,if_pos hb]
   by_cases h1 : 0 * 10 + (b.toNat - 48) = 0 ∨ most < 0 * 10 + (b.toNat - 48)
   ·rw [if_pos h1] at e1; exact .inr (.inr (.inl e1))
   ·rw [if_neg h1] at e1
    obtain ⟨n,hn⟩ : ∃ n,n = b.toNat - 48:=⟨_,rfl⟩
    have hbn : b = UInt8.ofNat (48 + n):=by rw [hn]; exact z1q hb
    rw [← hn,Nat.zero_mul,Nat.zero_add] at e1
    have hd1 : v8 n = [b]:=by rw [v8,if_pos (by omega),hbn]
    cases l with
    |nil=>exact .inl ⟨1,n,by omega,by omega,by rw [hd1]; rfl,by rw [hd1]; simp,by rw [e1,zai]⟩
    |cons b2 l2 =>
     by_cases hb2 : dig b2
     ·have hb2':=hb2
      unfold dig at hb2'
      rw [zas most n b2,if_pos hb2] at e1
      by_cases h2 : n * 10 + (b2.toNat - 48) = 0 ∨ most < n * 10 + (b2.toNat - 48)
      ·rw [if_pos h2] at e1; exact .inr (.inr (.inl e1))
      ·rw [if_neg h2] at e1
       obtain ⟨m,hm2⟩ : ∃ m,m = n * 10 + (b2.toNat - 48):=⟨_,rfl⟩
       rw [← hm2] at e1
       have hbm : b2 = UInt8.ofNat (48 + m % 10):=by
        have:=z1q hb2
        rw [this]; congr 1; simp; omega
       have hd2 : v8 m = [b,b2]:=by
        rw [v8,if_neg (by omega),hbm,hbn,show m / 10 = n by omega]
       cases l2 with
       |nil=>exact .inl ⟨2,m,by omega,by omega,by rw [hd2]; rfl,by rw [hd2]; simp,by rw [e1,zai]⟩
       |cons b3 l3 =>
        by_cases hb3 : dig b3
        ·rw [zas most m b3,if_pos hb3,if_pos (.inr (by omega))] at e1
         exact .inr (.inr (.inl e1))
        ·rw [zas most m b3,if_neg hb3,if_neg (by omega)] at e1
         exact .inr (.inl ⟨m,b3,l3,by omega,by omega,by rw [hd2]; rfl,hb3,e1⟩)
     ·rw [zas most n b2,if_neg hb2,if_neg (by omega)] at e1
      exact .inr (.inl ⟨n,b2,l2,by omega,by omega,by rw [hd1]; rfl,hb2,e1⟩)
  ·exact .inr (.inr (.inl (by rw [zai,if_neg hb,if_pos rfl])))
theorem zo4 {most m : Nat} (hm : most ≤ 99) (h1 : 1 ≤ m) (h2 : m ≤ most) {b : UInt8} {t : List UInt8} (hb : ¬ dig b) : zai most 0 (v8 m ++ b :: t) = (0,m,b :: t):=by
 unfold v8
 split
 ·rename_i h
  obtain ⟨d1,d2⟩:=ug h
  rw [List.cons_append,List.nil_append,zai,if_pos d1,d2,if_neg (by omega),zai,if_neg hb,if_neg (by omega)]
  simp
 ·rename_i h
  obtain ⟨d1,d2⟩:=ug (k:=m / 10) (by omega)
  obtain ⟨d3,d4⟩:=ug (k:=m % 10) (by omega)
  rw [List.cons_append,List.cons_append,List.nil_append,zai,if_pos d1,d2,if_neg (by omega),zai,if_pos d3,d4,if_neg (by omega),zai,if_neg hb,if_neg (by omega)]
  simp only [Prod.mk.injEq,and_true,true_and]; omega
theorem zo3 {most m k : Nat} (hm : most ≤ 99) (h1 : 1 ≤ m) (h2 : m ≤ most) : zai most 0 ((v8 m).take k) = (3,0,[]):=by
 unfold v8
 split
 ·rename_i h
  obtain ⟨d1,d2⟩:=ug h
  match k with
  |0=>rfl
  |k + 1 =>
   rw [List.take_succ_cons,List.take_nil,zai,if_pos d1,d2,if_neg (by omega),zai]
 ·rename_i h
  obtain ⟨d1,d2⟩:=ug (k:=m / 10) (by omega)
  obtain ⟨d3,d4⟩:=ug (k:=m % 10) (by omega)
  match k with
  |0=>rfl
  |1=>rw [List.take_succ_cons,List.take_zero,zai,if_pos d1,d2,if_neg (by omega),zai]
  |k + 2=>rw [List.take_succ_cons,List.take_succ_cons,List.take_nil,zai,if_pos d1,d2,if_neg (by omega),zai,if_pos d3,d4,if_neg (by omega),zai]
theorem zyk {c : Cmd} {l : List UInt8} (h : Shape c l) : z9 c = true ∧ q9 c = l:=by
 cases h with
 |text n hs =>
  refine ⟨by simp [z9,hs], ?_⟩
  simp only [q9,if_true]
  exact zka (wz hs)
 |go a b ha hb =>
  refine ⟨by simp [z9]; omega, ?_⟩
  simp [q9,show ((a : Int) + 1).toNat = a + 1 by omega,show ((b : Int) + 1).toNat = b + 1 by omega]
 |one k hk =>
  have e1 : (62 + (k : Int)).toNat = 62 + k:=by omega
  refine ⟨by simp only [z9]; rw [if_neg (by omega),if_neg (by omega),if_pos (by omega)]; simp, ?_⟩
  simp only [q9]; rw [if_neg (by omega),if_neg (by omega),if_pos (by omega),if_pos trivial,e1]; rfl
 |move k a hk ha =>
  have e1 : (62 + (k : Int)).toNat = 62 + k:=by omega
  refine ⟨by simp only [z9]; rw [if_neg (by omega),if_neg (by omega),if_pos (by omega)]; simp; omega, ?_⟩
  simp only [q9]; rw [if_neg (by omega),if_neg (by omega),if_pos (by omega),if_neg (by omega),e1]; rfl
 |form k hk =>
  refine ⟨by simp only [z9]; rw [if_neg (by omega),if_neg (by omega),if_neg (by omega)]; simp; omega, ?_⟩
  simp only [q9]; rw [if_neg (by omega),if_neg (by omega),if_neg (by omega)]
end
section
open Go Go.RowKit
set_option maxRecDepth 100000
theorem zuq {b : Nat} (h : 32 ≤ b) : zaw b = 0:=by
 unfold zaw; rw [if_neg (by omega),if_neg (by omega),if_neg (by omega),if_neg (by omega)]
theorem zil (b : Nat) : zaw b = 0 ∨ (b = 13 ∧ zaw b = 9) ∨ (b = 10 ∧ zaw b = 10) ∨ (b = 8 ∧ zaw b = 11) ∨ (b = 7 ∧ zaw b = 12):=by
 unfold zaw
 repeat' split
 all_goals simp_all
theorem za0 (b : UInt8) (l : List UInt8) : zdi (b :: l) = if zaw b.toNat ≠ 0 then (0,(zaw b.toNat,0,0,0),l)
  else if b.toNat = 27 then (match l with
   |[]=>nok 3
   |x :: l2=>if x.toNat = 91 then zem l2 else nok 2)
  else if zb3 (b :: l) = false then nok 3
  else if zag (b :: l) = (65533,1) ∨ ja ((zag (b :: l)).1 : Nat) = false then nok 2
  else (0,(1,0,0,((zag (b :: l)).1 : Nat)),(b :: l).drop (zag (b :: l)).2):=rfl
theorem zwi (l : List UInt8) : zdi (27 :: l) = match l with | []=>nok 3 | x :: l2=>if x.toNat = 91 then zem l2 else nok 2:=rfl
theorem yv (l : List UInt8) : zdi (27 :: 91 :: l) = zem l:=by
 rw [zwi]
 exact if_pos (by decide)
theorem zhh {m : Nat} (h1 : 1 ≤ m) (h2 : m ≤ 80) {b : UInt8} {t : List UInt8} (hb : ¬ dig b) : zem (v8 m ++ b :: t) = if m = 1 ∧ b.toNat ≠ 59 then nok 2 else zhb true m (b :: t):=by
 have hn:=zo4 (most:=80) (by decide) h1 h2 (t:=t) hb
 obtain ⟨y,ys,e,y1,y2⟩:=zp0 (n:=m) (by omega)
 rw [e] at hn ⊢
 rw [List.cons_append] at hn ⊢
 rw [zem,if_pos ⟨y1,y2⟩,hn]; rfl
theorem zv3 {m n : Nat} (h1 : m ≤ 24) (h2 : 1 ≤ n) (h3 : n ≤ 80) {b : UInt8} {t : List UInt8} (hb : ¬ dig b) : zhb true m (59 :: (v8 n ++ b :: t)) = if b.toNat = 72 then (0,(2,(m : Int) - 1,(n : Int) - 1,0),t) else nok 2:=by
 rw [zhb,if_neg (by decide),if_neg (by simp; omega),zo4 (by decide) h2 h3 hb]; rfl
theorem d59 : ¬ dig 59:=by decide
theorem d72 : ¬ dig 72:=by decide
theorem z1r {k : Nat} (hk : 3 ≤ k ∧ k ≤ 6) : ¬ dig (UInt8.ofNat (62 + k)):=by have:=zua hk; unfold dig; omega
theorem z19 {is : Bool} {n k : Nat} (hk : 3 ≤ k ∧ k ≤ 6) (t : List UInt8) : zhb is n (UInt8.ofNat (62 + k) :: t) = (0,((k : Int),(n : Int),0,0),t):=by
 have:=zua hk
 have e : (UInt8.ofNat (62 + k)).toNat = 62 + k:=by simp; omega
 rw [zhb,if_pos this,e,Nat.add_sub_cancel_left]
theorem z0z {c : Cmd} {l : List UInt8} (h : Shape c l) (t : List UInt8) : zdi (l ++ t) = (0,c,t):=by
 cases h with
 |text n hs =>
  obtain ⟨x,l',e,hx⟩:=z0o hs
  have hg:=wz hs
  have h1:=zz1 hg t
  have h2:=zkd hg t
  rw [e] at h1 h2 ⊢
  rw [List.cons_append] at h1 h2 ⊢
  have hn : (zag (x :: (l' ++ t))).1 = n:=by have:=h2.1; omega
  rw [za0,if_neg (by rw [zuq hx]; decide),if_neg (by omega),if_neg (by rw [h1]; decide),if_neg,hn,h2.2]
  ·rw [← List.cons_append]
   simp
  ·rintro (h3 | h3)
   ·rw [h3] at hn h2
    simp only at hn h2
    subst hn
    rw [← e] at h2
    have : (yu ((65533 : Nat) : Int)).length = 3:=by decide
    omega
   ·rw [hn,hs] at h3; cases h3
 |go a b ha hb =>
  rw [List.cons_append,List.cons_append,yv,List.append_assoc,List.cons_append,List.append_assoc,zhh (by omega) (by omega) d59,if_neg (by simp)]
  rw [List.cons_append,List.nil_append,zv3 (by omega) (by omega) (by omega) d72,if_pos (by decide)]
  simp only [Prod.mk.injEq,true_and,and_true]; omega
 |one k hk =>
  have:=zua hk
  have hd:=z1r hk
  rw [List.cons_append,List.cons_append,List.cons_append,List.nil_append,yv,zem,if_neg hd,if_neg (by omega),if_neg (by omega),z19 hk]; rfl
 |move k a hk ha =>
  rw [List.cons_append,List.cons_append,yv,List.append_assoc,List.cons_append,List.nil_append,zhh (by omega) (by omega) (z1r hk),if_neg (by omega),z19 hk]
 |form k hk =>
  have hk' : k = 7 ∨ k = 8 ∨ k = 9 ∨ k = 10 ∨ k = 11 ∨ k = 12:=by omega
  rcases hk' with rfl | rfl | rfl | rfl | rfl | rfl
  ·show zdi (27 :: 91 :: (75 :: t)) = _
   rw [yv,zem,if_neg (by decide),if_pos (by decide)]; rfl
  ·show zdi (27 :: 91 :: (74 :: t)) = _
   rw [yv,zem,if_neg (by decide),if_neg (by decide),if_pos (by decide)]; rfl
  all_goals (simp only [zgz]; rfl)
theorem z0y {s : List UInt8} (h : zof s) : zdi s = nok 3:=by
 rcases h with h | ⟨h0,c,l,hs,hc,hl,he⟩
 ·have hf:=zez h
  obtain ⟨h0,_⟩:=h
  cases s with
  |nil=>exact absurd rfl h0
  |cons x s =>
   have hx:=zgw hf (by simp)
   rw [yn] at hx
   rw [za0,if_neg (by rw [zuq (by omega)]; decide),if_neg (by omega),if_pos hf]
 ·have hp : 0 < s.length:=List.length_pos_iff.2 h0
  obtain ⟨n,hn⟩ : ∃ n,n = s.length:=⟨_,rfl⟩
  rw [← hn] at he hl hp
  have t1 : ∀ r : List UInt8,zdi ((27 :: 91 :: r).take 1) = nok 3:=fun r=>rfl
  have t2 : ∀ r : List UInt8,zdi ((27 :: 91 :: r).take 2) = nok 3:=fun r=>by
   show zdi (27 :: 91 :: []) = nok 3
   rw [yv,zem]
  have t3 : ∀ (m k : Nat) (r : List UInt8),1 ≤ m → m ≤ 80 → 1 ≤ k → k ≤ (v8 m).length → zdi (27 :: 91 :: (v8 m ++ r).take k) = nok 3:=fun m k r h1 h2 h3 h4=>by
   rw [yv,List.take_append_of_le_length h4]
   have hnum:=zo3 (most:=80) (k:=k) (by decide) h1 h2
   obtain ⟨y,ys,e,y1,y2⟩:=zp0 (n:=m) (by omega)
   rw [e] at hnum ⊢
   obtain ⟨k,rfl⟩ : ∃ j,k = j + 1:=⟨k - 1,by omega⟩
   rw [List.take_succ_cons] at hnum ⊢
   rw [zem,if_pos ⟨y1,y2⟩,hnum]; rfl
  rw [he]
  cases hs with
  |text _ _=>exact absurd rfl hc
  |go a b ha hb =>
   match n,hp with
   |1,_=>exact t1 _
   |2,_=>exact t2 _
   |n + 3,_ =>
    rw [List.take_succ_cons,List.take_succ_cons]
    by_cases hk : n + 1 ≤ (v8 (a + 1)).length
    ·exact t3 (a + 1) (n + 1) _ (by omega) (by omega) (by omega) hk
    ·have hk2 : n + 1 = (v8 (a + 1)).length + (1 + (n - (v8 (a + 1)).length)):=by omega
     rw [hk2,List.take_length_add_append,Nat.add_comm 1,List.take_succ_cons]
     simp only [List.length_cons,List.length_append,List.length_nil] at hl
     rw [List.take_append_of_le_length (by omega),yv,zhh (by omega) (by omega) d59,if_neg (by simp),zhb,if_neg (by decide),if_neg (by simp; omega),zo3 (by decide) (by omega) (by omega)]; rfl
  |one k hk =>
   simp at hl
   match n,hp with
   |1,_=>exact t1 _
   |2,_=>exact t2 _
   |n + 3,_=>omega
  |move k a hk ha =>
   match n,hp with
   |1,_=>exact t1 _
   |2,_=>exact t2 _
   |n + 3,_ =>
    rw [List.take_succ_cons,List.take_succ_cons]
    simp only [List.length_cons,List.length_append,List.length_nil] at hl
    exact t3 a (n + 1) _ (by omega) (by omega) (by omega) (by omega)
  |form k hk =>
   have hk' : k = 7 ∨ k = 8 ∨ k = 9 ∨ k = 10 ∨ k = 11 ∨ k = 12:=by omega
   rcases hk' with rfl | rfl | rfl | rfl | rfl | rfl <;> simp [zgz] at hl
   ·match n,hp with
    |1,_=>exact t1 _
    |2,_=>exact t2 _
    |n + 3,_=>omega
   ·match n,hp with
    |1,_=>exact t1 _
    |2,_=>exact t2 _
    |n + 3,_=>omega
   all_goals omega
theorem zgo {c : Cmd} {l s r : List UInt8} (h : Shape c l) (hc : c.1 ≠ 1) (e : l = s ++ r) (h0 : s ≠ []) (hr : r ≠ []) : zof s :=
 .inr ⟨h0,c,l,h,hc,by rw [e,List.length_append]; have:=List.length_pos_iff.2 hr; omega,by rw [e]; simp⟩
theorem kd {a b : UInt8} (h : a.toNat = b.toNat) : a = b:=UInt8.toNat_inj.1 h
theorem zwf (s : List UInt8) : (∃ c l t,Shape c (27 :: 91 :: l) ∧ s = l ++ t ∧ zem s = (0,c,t)) ∨ (zem s = nok 3 ∧ zof (27 :: 91 :: s)) ∨ zem s = nok 2:=by
 cases s with
 |nil=>exact .inr (.inl ⟨rfl,zgo (.form 7 (by decide)) (by decide) (r:=[75]) rfl (by simp) (by simp)⟩)
 |cons b l =>
  by_cases hb : dig b
  ·rcases zfg (most:=80) (by decide) (b :: l) with ⟨k,m,m1,m2,e,hk,hn⟩ | ⟨m,b2,t,m1,m2,e,hb2,hn⟩ | hn | h0
   ·refine .inr (.inl ⟨by rw [zem,if_pos hb,hn]; rfl, ?_⟩)
    rw [e]
    by_cases h1 : m = 1
    ·subst h1
     refine zgo (.go 0 0 (by decide) (by decide)) (by decide) (r:=(v8 1).drop k ++ 59 :: (v8 1 ++ [72])) ?_ (by simp) (by simp)
     rw [List.cons_append,List.cons_append,← List.append_assoc,List.take_append_drop]
    ·refine zgo (.move 3 m (by decide) (by omega)) (by show (3 : Int) ≠ 1; decide) (r:=(v8 m).drop k ++ [65]) ?_ (by simp) (by simp)
     rw [List.cons_append,List.cons_append,← List.append_assoc,List.take_append_drop]; rfl
   ·rw [e,zhh m1 m2 hb2]
    by_cases h1 : m = 1 ∧ b2.toNat ≠ 59
    ·rw [if_pos h1]; exact .inr (.inr rfl)
    ·rw [if_neg h1]
     by_cases hm : 65 ≤ b2.toNat ∧ b2.toNat ≤ 68
     ·have hb3 : b2 = UInt8.ofNat (62 + (b2.toNat - 62)):=by rw [← UInt8.toNat_inj]; simp; omega
      refine .inl ⟨(((b2.toNat - 62 : Nat) : Int),(m : Int),0,0),v8 m ++ [b2],t, ?_,by simp,by rw [zhb,if_pos hm]⟩
      have:=Shape.move (b2.toNat - 62) m (by omega) (by omega)
      rw [← hb3] at this; exact this
     ·by_cases hf : b2.toNat ≠ 59 ∨ 24 < m ∨ true = false
      ·rw [zhb,if_neg hm,if_pos hf]; exact .inr (.inr rfl)
      ·have h59 : b2 = 59:=kd (by show b2.toNat = 59; omega)
       subst h59
       have hm24 : m ≤ 24:=by omega
       rcases zfg (most:=80) (by decide) t with ⟨k,n,n1,n2,e2,hk,hn2⟩ | ⟨n,b3,t2,n1,n2,e2,hb3,hn2⟩ | hn2 | h0
       ·refine .inr (.inl ⟨by rw [zhb,if_neg hm,if_neg hf,hn2]; rfl, ?_⟩)
        rw [e2]
        refine zgo (.go (m - 1) (n - 1) (by omega) (by omega)) (by show (2 : Int) ≠ 1; decide) (r:=(v8 n).drop k ++ [72]) ?_ (by simp) (by simp)
        rw [show m - 1 + 1 = m by omega,show n - 1 + 1 = n by omega,List.cons_append,List.cons_append,List.append_assoc,List.cons_append,← List.append_assoc ((v8 n).take k),List.take_append_drop]
       ·rw [e2,zv3 hm24 n1 n2 hb3]
        by_cases h72 : b3.toNat = 72
        ·rw [if_pos h72]
         have h72' : b3 = 72:=kd (by show b3.toNat = 72; omega)
         subst h72'
         refine .inl ⟨_,v8 m ++ 59 :: (v8 n ++ [72]),t2, ?_,by simp,rfl⟩
         have:=Shape.go (m - 1) (n - 1) (by omega) (by omega)
         rw [show m - 1 + 1 = m by omega,show n - 1 + 1 = n by omega,show ((m - 1 : Nat) : Int) = (m : Int) - 1 by omega,show ((n - 1 : Nat) : Int) = (n : Int) - 1 by omega] at this
         exact this
        ·rw [if_neg h72]; exact .inr (.inr rfl)
       ·exact .inr (.inr (by rw [zhb,if_neg hm,if_neg hf,hn2]; rfl))
       ·exact absurd h0 (by decide)
   ·exact .inr (.inr (by rw [zem,if_pos hb,hn]; rfl))
   ·exact absurd h0 (by decide)
  ·rw [zem,if_neg hb]
   by_cases h75 : b.toNat = 75
   ·have : b = 75:=kd (by show b.toNat = 75; omega)
    subst this
    rw [if_pos h75]
    exact .inl ⟨_,[75],l,.form 7 (by decide),rfl,rfl⟩
   ·rw [if_neg h75]
    by_cases h74 : b.toNat = 74
    ·have : b = 74:=kd (by show b.toNat = 74; omega)
     subst this
     rw [if_pos h74]
     exact .inl ⟨_,[74],l,.form 8 (by decide),rfl,rfl⟩
    ·rw [if_neg h74]
     by_cases hm : 65 ≤ b.toNat ∧ b.toNat ≤ 68
     ·have hb3 : b = UInt8.ofNat (62 + (b.toNat - 62)):=by rw [← UInt8.toNat_inj]; simp; omega
      refine .inl ⟨(((b.toNat - 62 : Nat) : Int),((1 : Nat) : Int),0,0),[b],l, ?_,rfl,by rw [zhb,if_pos hm]⟩
      have:=Shape.one (b.toNat - 62) (by omega)
      rw [← hb3] at this; exact this
     ·rw [zhb,if_neg hm,if_pos (.inr (.inr rfl))]; exact .inr (.inr rfl)
theorem zaz (s : List UInt8) (h : s ≠ []) : (∃ c l t,Shape c l ∧ s = l ++ t ∧ zdi s = (0,c,t)) ∨ (zdi s = nok 3 ∧ zof s) ∨ zdi s = nok 2:=by
 cases s with
 |nil=>exact absurd rfl h
 |cons b l =>
  rcases zil b.toNat with h0 | ⟨hb,hk⟩ | ⟨hb,hk⟩ | ⟨hb,hk⟩ | ⟨hb,hk⟩
  ·by_cases h27 : b.toNat = 27
   ·have : b = 27:=kd (by show b.toNat = 27; omega)
    subst this
    cases l with
    |nil=>exact .inr (.inl ⟨rfl,zgo (.form 7 (by decide)) (by decide) (r:=[91,75]) rfl (by simp) (by simp)⟩)
    |cons x l =>
     by_cases h91 : x.toNat = 91
     ·have : x = 91:=kd (by show x.toNat = 91; omega)
      subst this
      rw [yv]
      rcases zwf l with ⟨c,m,t,h1,h2,h3⟩ | ⟨h1,h2⟩ | h1
      ·exact .inl ⟨c,27 :: 91 :: m,t,h1,by rw [h2]; rfl,h3⟩
      ·exact .inr (.inl ⟨h1,h2⟩)
      ·exact .inr (.inr h1)
     ·refine .inr (.inr ?_)
      rw [zwi]
      show (if x.toNat = 91 then zem l else nok 2) = nok 2
      rw [if_neg h91]
   ·rw [za0,if_neg (by rw [h0]; decide),if_neg h27]
    by_cases hf : zb3 (b :: l) = false
    ·rw [if_pos hf]; exact .inr (.inl ⟨rfl,.inl (zac (by simp) hf)⟩)
    ·rw [if_neg hf]
     by_cases hd : zag (b :: l) = (65533,1) ∨ ja ((zag (b :: l)).1 : Nat) = false
     ·rw [if_pos hd]; exact .inr (.inr rfl)
     ·rw [if_neg hd]
      rcases zl6 (s:=b :: l) (by simp) with h1 | ⟨h1,h2,h3⟩
      ·exact absurd (.inl h1) hd
      ·refine .inl ⟨_,yu ((zag (b :: l)).1 : Nat),_,.text _ ?_,by rw [← h3,List.take_append_drop],rfl⟩
       cases hs : ja ((zag (b :: l)).1 : Nat) with
       |true=>rfl
       |false=>exact absurd (.inr hs) hd
  ·have : b = 13:=kd (by show b.toNat = 13; omega)
   subst this
   exact .inl ⟨(9,0,0,0),[13],l,.form 9 (by decide),rfl,rfl⟩
  ·have : b = 10:=kd (by show b.toNat = 10; omega)
   subst this
   exact .inl ⟨(10,0,0,0),[10],l,.form 10 (by decide),rfl,rfl⟩
  ·have : b = 8:=kd (by show b.toNat = 8; omega)
   subst this
   exact .inl ⟨(11,0,0,0),[8],l,.form 11 (by decide),rfl,rfl⟩
  ·have : b = 7:=kd (by show b.toNat = 7; omega)
   subst this
   exact .inl ⟨(12,0,0,0),[7],l,.form 12 (by decide),rfl,rfl⟩
end
section
open Go Go.RowKit
variable {T0 : Gh}
set_option maxRecDepth 100000
def z93 : Go.Shelf.Ren:=⟨fun k=>if k = 197 then 192 else if k = 260 then 199 else 0,
 fun k=>if k = 0 then 0 else if k = 3 then 3 else if k = 4 then 4 else if k = 5 then 5 else if k = 9 then 9 else if k = 21 then 21 else if k = 46 then 178 else if k = 105 then 205 else if k = 119 then 211 else if k = 138 then 213 else if k = 139 then 214 else 0,
 fun k=>if k = 3 then 1 else if k = 4 then 2 else 0⟩
theorem z2r {P : Program} {t : TypeId} {v : Value} (h : (P.info? t).map (·.zero) = some (some v)) (w : World) : (zeroValue t).run P w = .ok v w:=by
 obtain ⟨i,h1,h2⟩:=Option.map_eq_some_iff.1 h
 simp [zeroValue,typeInfo,h1,h2]
theorem z2v : Go.Proofs.Lays.n197 Tryz.prog z93:=by
 constructor
 all_goals first
 |kernel_rfl
 |exact yq (by kernel_rfl)
 |exact kf (by kernel_rfl)
 |exact xg (by kernel_rfl)
 |exact z2r (by kernel_rfl)
theorem St.after {G : Gh} {w0 w w' : World} {M : List Own} (h : St T0 w0 G M w) (hb : Below w.heap.size w w') : St T0 w0 G M w' :=
 ⟨⟨hb.os.trans h.below.os,hb.tape.trans h.below.tape,hb.output.trans h.below.output,Nat.le_trans h.below.size hb.size,fun b hb'=>(hb.block b (Nat.lt_of_lt_of_le hb' h.below.size)).trans (h.below.block b hb')⟩,
   h.tab,fun b o v hv=>(World.cell?_of_block (w:=w) (hb.block b (u6 (h.imm b o v hv)))).trans (h.imm b o v hv),
   fun m hm=>m.loc (fun b hb'=>hb.block b (h.foot m hm b hb').2.1) (h.own m hm),fun m hm b hb'=>let ⟨a1,a2,a3⟩:=h.foot m hm b hb'; ⟨a1,Nat.lt_of_lt_of_le a2 hb.size,a3⟩,h.sep⟩
theorem zxf {i : Nat} (h : i < 16) : z1e[2 * i]? = some (.int .u8 (Go.Lib.accLo i : Nat)) ∧ z1e[2 * i + 1]? = some (.int .u8 (Go.Lib.accHi i : Nat)):=by
 have h' : i = 0 ∨ i = 1 ∨ i = 2 ∨ i = 3 ∨ i = 4 ∨ i = 5 ∨ i = 6 ∨ i = 7 ∨ i = 8 ∨ i = 9 ∨ i = 10 ∨ i = 11 ∨ i = 12 ∨ i = 13 ∨ i = 14 ∨ i = 15:=by omega
 rcases h' with rfl | rfl | rfl | rfl | rfl | rfl | rfl | rfl | rfl | rfl | rfl | rfl | rfl | rfl | rfl | rfl <;> exact ⟨rfl,rfl⟩
theorem z90 [c : TabU T0] {G : Gh} {w0 w : World} {M : List Own} (h : St T0 w0 G M w) : Go.Lib.Utf8Tabs (z93.g 3) (z93.g 4) w:=by
 have key : ∀ b o v,zmz b o = some v → w.cell? ⟨b,o,none⟩ = some v:=fun b o v hv=>h.imm _ _ _ (h.tab _ _ _ (c.h _ _ _ hv))
 refine ⟨fun k hk=>key _ _ _ ?_,fun i hi=>⟨key _ _ _ ?_,key _ _ _ ?_⟩⟩
 ·show zmz 1 k = _
  unfold zmz; rw [if_pos rfl]
  simp [zej,List.getElem?_range,hk]
 ·show zmz 2 (2 * i) = _
  unfold zmz; rw [if_neg (by decide),if_pos rfl]
  exact (zxf hi).1
 ·show zmz 2 (2 * i + 1) = _
  unfold zmz; rw [if_neg (by decide),if_pos rfl]
  exact (zxf hi).2
theorem zpf (s : List UInt8) (j : Nat) : ((⟨s.toArray⟩ : ByteArray).get! j).toNat = bt s j:=by
 show (s.toArray[j]!).toNat = bt s j
 unfold bt
 by_cases h : j < s.length
 ·simp [h]
 ·simp [h]; rfl
theorem qam (s : List UInt8) (h : s ≠ []) : Go.Lib.decodeGo ⟨s.toArray⟩ = zag s:=by
 have hs : (⟨s.toArray⟩ : ByteArray).size = s.length:=by simp [ByteArray.size]
 have hp:=List.length_pos_iff.2 h
 unfold Go.Lib.decodeGo
 rw [hs,if_neg (by omega),Go.Lib.decode_at,hs,zpf,zpf,zpf,zpf]; rfl
theorem z0d [TabU T0] (s : List UInt8) (h : s ≠ []) : AP Tryz.prog T0 192 [SA s] (zy [R (zag s).1,I (zag s).2]):=by
 refine ⟨⟨Tryz.f192,Tryz.func192,by decide,rfl⟩,fun w0 G F w vs hs hr => ?_⟩
 obtain ⟨v,rfl⟩ : ∃ v,vs = [v]:=List.length_eq_one_iff.1 hr.len
 have hv:=hr.1.eq
 subst hv
 refine (Any.utf8_DecodeRuneInString z2v ⟨s.toArray⟩ w (z90 hs)).mono ?_
 rintro e w' ⟨rfl,hb⟩
 rw [qam s h]
 exact .inl ⟨_,zy [R (zag s).1,I (zag s).2],[],G,rfl,⟨Sub.refl _,rfl⟩,.of ⟨[_,_],rfl,Rep.va _ _,Rep.va _ _,trivial⟩,Gh.le.refl _,hs.after hb⟩
end
section
open Go Go.RowKit
variable {T0 : Gh} [TabU T0]
set_option maxRecDepth 100000
instance qdc : UnC 211 (.array 256 5):=⟨Tryz.underlying211⟩
instance qdd : UnC 214 (.array 16 213):=⟨Tryz.underlying214⟩
instance qde : SzC 5 1:=⟨xg (by kernel_rfl)⟩
instance qdx : SpC 5:=⟨jn (n:=0) (by kernel_rfl)⟩
instance qdo : SzC 213 2:=⟨xg (by kernel_rfl)⟩
instance qe2 : AggC 213 true:=⟨kf (by kernel_rfl)⟩
theorem z1i : Tryz.prog.underlying 213 = some (.struct #[{ name := "lo",type:=5,offset:=0,embedded:=false,tag := "",pkgPath := "unicode/utf8",byteOffset:=0 },{ name := "hi",type:=5,offset:=1,embedded:=false,tag := "",pkgPath := "unicode/utf8",byteOffset:=1 }]):=Tryz.underlying213
instance qcl : FldC 213 0 0 5:=⟨_,_,z1i,rfl,rfl,rfl⟩
instance qck : FldC 213 1 1 5:=⟨_,_,z1i,rfl,rfl,rfl⟩
instance qeu : AlC 213 (.agg #[.int .u8 0,.int .u8 0]) [.int .u8 0,.int .u8 0] [U 0,U 0]:=⟨by kernel_rfl,rfl,rfl⟩
theorem zz5 {m : Nat} (h : m < 256) : (zej.drop (m * 1))[0]? = some (.int .u8 (Go.Lib.firstT m : Nat)):=by
 simp [zej,List.getElem?_range,h]
section
variable {N : Fz} {Q : ko} {fr : Fr} {M M' : List Own} {ops : Array Oper} {o : Oper} {rest : List Oper} {x0 : Nat}
theorem z1s {x : Operand} {i : Nat} (ho : o.op = .load 213 x) (hi : i < 16) (hx : Opd T0 fr x (ipA (z1e.drop (i * 2)))) : AY Tryz.prog T0 ops o fr M (qb [U (Go.Lib.accLo i : Nat),U (Go.Lib.accHi i : Nat)]):=by
 have h1:=zxf hi
 have h:=zc_ (P:=Tryz.prog) (ops:=ops) (M:=M) ho zku (n:=2) sz_ hx (by rw [List.length_drop,show z1e.length = 32 from rfl]; omega)
 have e : (z1e.drop (i * 2)).take 2 = [.int .u8 (Go.Lib.accLo i : Nat),.int .u8 (Go.Lib.accHi i : Nat)]:=by
  have h' : i = 0 ∨ i = 1 ∨ i = 2 ∨ i = 3 ∨ i = 4 ∨ i = 5 ∨ i = 6 ∨ i = 7 ∨ i = 8 ∨ i = 9 ∨ i = 10 ∨ i = 11 ∨ i = 12 ∨ i = 13 ∨ i = 14 ∨ i = 15:=by omega
  rcases h' with rfl | rfl | rfl | rfl | rfl | rfl | rfl | rfl | rfl | rfl | rfl | rfl | rfl | rfl | rfl | rfl <;> rfl
 rw [e] at h; exact h
end
theorem zwl {s : List UInt8} {j : Nat} (h : j < s.length) : bt s j = (s[j]!).toNat:=by
 rw [bt,List.getElem?_eq_getElem h,List.getElem!_eq_getElem?_getD,List.getElem?_eq_getElem h]; rfl
attribute [local irreducible] zz zg AW AL AO QY qh z_ rsA Opd xh vA gvA zy qb slA jl ipA rpA EqK LnK IxK LdK FaK FdK
theorem w8 (s : List UInt8) (b : UInt8) (t : List UInt8) (hs : s = b :: t) (hl : s.length ≤ 9223372036854775807) (x sz i : Nat) (h1 : Go.Lib.firstT b.toNat = x) (h2 : x % 8 = sz) (h3 : x / 16 = i) (hi : i < 16) (hsz : sz ≤ 8)
  (hand : ∀ w,(binOp .and 5 (.int .u8 (x : Int)) (.int .u8 7)).run Tryz.prog w = .ok (.int .u8 (sz : Int)) w) (hshr : ∀ w,(binOp .shr 5 (.int .u8 (x : Int)) (.int .u64 4)).run Tryz.prog w = .ok (.int .u8 (i : Int)) w) :
  AP Tryz.prog T0 191 [SA s] (B (zb3 s)):=by
 have hb0:=b.toNat_lt
 have hv : (zej.drop (b.toNat * 1))[0]? = some (.int .u8 (x : Int)):=by rw [zz5 hb0,h1]
 have g0 : s[0]? = some b:=by rw [hs]; rfl
 have e0 : bt s 0 = b.toNat:=qas g0
 have hp : 0 < s.length:=by rw [hs]; simp
 have c0 : zb3 s = zls s.length b.toNat (bt s 1) (bt s 2):=by rw [zb3,e0]
 have c1:=fun h=>zwl (s:=s) (j:=1) h
 have c2:=fun h=>zwl (s:=s) (j:=2) h
 clear hs
 have c3 : zls s.length b.toNat (bt s 1) (bt s 2) = if sz ≤ s.length then true else if 1 < s.length ∧ (bt s 1 < Go.Lib.accLo i ∨ Go.Lib.accHi i < bt s 1) then true else if 2 < s.length ∧ (bt s 2 < 128 ∨ 191 < bt s 2) then true else false:=by
  unfold zls; rw [if_neg (by omega),h1,h2,h3]
 rw [c0,c3]
 refine za Tryz.func191 rfl (by decide) Tryz.ntmps191 rfl ?_
 repeat' (first
 |refine sa_ ?_ | refine jd ?_ (hy:=by first | (apply zl rfl un_ sz_ zo2; exact ol_; omega) | exact jj rfl zku oo_ hv | exact za1 rfl oo_ oo_ hand | exact za1 rfl oo_ oo_ hshr | (apply zl rfl un_ sz_ z1p; exact ol_; omega) | exact z1s rfl hi oo_ | fail) | refine j0 ?_ | refine qj ?_ (hy:=by intro hk hk2; first | (apply zl rfl un_ sz_ zo2; exact ol_; omega) | exact jj rfl zku oo_ hv | exact za1 rfl oo_ oo_ hand | exact za1 rfl oo_ oo_ hshr | (apply zl rfl un_ sz_ z1p; exact ol_; omega) | exact z1s rfl hi oo_ | fail) | refine sw_ ?_ | (refine zd ?_ ?_ <;> intro hb <;> try exact no_) | (refine sx_ ?_ <;> intro bb) | (refine su_ ?_ <;> intro u hu1 hu2) | fail)
 all_goals refine ⟨_,[],rs_,List.nil_sublist _,Sub.eq (congrArg B ?_),rfl⟩
 ·rw [if_pos (by omega)]
 ·rw [if_neg (by omega),if_pos]
  have:=c1 (by omega)
  omega
 ·rename_i hb1
  rw [if_neg (by omega),if_neg,if_pos]
  ·have:=c2 (by omega)
   omega
  ·intro h
   have:=c1 (by omega)
   omega
 ·rename_i hb1
  rw [if_neg (by omega),if_neg,if_neg]
  ·intro h
   have:=c2 (by omega)
   omega
  ·intro h
   have:=c1 (by omega)
   omega
end
section
open Go Go.RowKit
variable {T0 : Gh} [TabU T0]
set_option maxRecDepth 100000
theorem z7y (s : List UInt8) (h0 : s ≠ []) (hl : s.length ≤ 9223372036854775807) : AP Tryz.prog T0 191 [SA s] (B (zb3 s)):=by
 obtain ⟨b,t,hs⟩ : ∃ b t,s = b :: t:=by cases s with | nil=>exact absurd rfl h0 | cons b t=>exact ⟨b,t,rfl⟩
 rcases zd2 b.toNat with ⟨r,e⟩ | ⟨r,r',e⟩ | ⟨r,r',e⟩ | ⟨r,e⟩ | ⟨r,r',e⟩ | ⟨r,e⟩ | ⟨r,r',e⟩ | ⟨r,e⟩ | ⟨r,r',e⟩ | ⟨r,e⟩ | ⟨r,e⟩
 ·exact w8 s b t hs hl 240 0 15 e rfl rfl (by decide) (by decide) (fun _=>rfl) (fun _=>rfl)
 ·exact w8 s b t hs hl 241 1 15 e rfl rfl (by decide) (by decide) (fun _=>rfl) (fun _=>rfl)
 ·exact w8 s b t hs hl 2 2 0 e rfl rfl (by decide) (by decide) (fun _=>rfl) (fun _=>rfl)
 ·exact w8 s b t hs hl 19 3 1 e rfl rfl (by decide) (by decide) (fun _=>rfl) (fun _=>rfl)
 ·exact w8 s b t hs hl 3 3 0 e rfl rfl (by decide) (by decide) (fun _=>rfl) (fun _=>rfl)
 ·exact w8 s b t hs hl 35 3 2 e rfl rfl (by decide) (by decide) (fun _=>rfl) (fun _=>rfl)
 ·exact w8 s b t hs hl 3 3 0 e rfl rfl (by decide) (by decide) (fun _=>rfl) (fun _=>rfl)
 ·exact w8 s b t hs hl 52 4 3 e rfl rfl (by decide) (by decide) (fun _=>rfl) (fun _=>rfl)
 ·exact w8 s b t hs hl 4 4 0 e rfl rfl (by decide) (by decide) (fun _=>rfl) (fun _=>rfl)
 ·exact w8 s b t hs hl 68 4 4 e rfl rfl (by decide) (by decide) (fun _=>rfl) (fun _=>rfl)
 ·exact w8 s b t hs hl 241 1 15 e rfl rfl (by decide) (by decide) (fun _=>rfl) (fun _=>rfl)
def zt8 (s : List UInt8) : Int × Int × Int:=if s = [] then (0,0,6) else if zb3 s = false then (0,0,3) else (((zag s).1 : Nat),((zag s).2 : Nat),0)
attribute [local irreducible] zz zg AW AL AO QY qh z_ rsA Opd xh vA gvA zy qb slA jl ipA rpA EqK LnK IxK LdK FaK FdK
theorem znt (s : List UInt8) (hl : s.length ≤ 9223372036854775807) : AP Tryz.prog T0 177 [SA s] (zy [R (zt8 s).1,I (zt8 s).2.1,I (zt8 s).2.2]):=by
 by_cases h0 : s = []
 ·have c1 : True:=trivial
  have c2 : True:=trivial
  subst h0
  refine za Tryz.func177 rfl (by decide) Tryz.ntmps177 rfl ?_
  repeat' (first
  |refine g7_ ?_ | (refine zd ?_ ?_ <;> intro hb <;> try exact no_) | (refine sx_ ?_ <;> intro bb) | (refine su_ ?_ <;> intro u hu1 hu2) | fail)
  all_goals first | exact ⟨_,[],rl_,List.nil_sublist _,Sub.refl _,rfl⟩ | (exfalso; simp at hb; done)
 ·have c1:=z7y (T0:=T0) s h0 hl
  have c2:=z0d (T0:=T0) s h0
  unfold zt8
  rw [if_neg h0]
  cases hf : zb3 s with
  |false =>
   rw [hf] at c1
   refine za Tryz.func177 rfl (by decide) Tryz.ntmps177 rfl ?_
   repeat' (first
   |refine g7_ ?_ | (refine zd ?_ ?_ <;> intro hb <;> try exact no_) | (refine sx_ ?_ <;> intro bb) | (refine su_ ?_ <;> intro u hu1 hu2) | fail)
   all_goals first | exact ⟨_,[],rl_,List.nil_sublist _,Sub.refl _,rfl⟩ | (exfalso; exact h0 (by simpa using hb))
  |true =>
   rw [hf] at c1
   refine za Tryz.func177 rfl (by decide) Tryz.ntmps177 rfl ?_
   repeat' (first
   |refine g7_ ?_ | (refine zd ?_ ?_ <;> intro hb <;> try exact no_) | (refine sx_ ?_ <;> intro bb) | (refine su_ ?_ <;> intro u hu1 hu2) | fail)
   all_goals first | exact ⟨_,[],rl_,List.nil_sublist _,Sub.refl _,rfl⟩ | (exfalso; exact h0 (by simpa using hb))
end
end Go.Proofs.YtgfmjmfphmjdkaaGreatDoor
