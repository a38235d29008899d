/- Several texts in one: see the comment ahead of each. No condition. -/
import Derived.Test.YtgfmjmfphmjdkaaGreatDoorR3ZV
set_option linter.unusedSimpArgs false
set_option linter.unusedVariables false
set_option linter.unusedSectionVars false
namespace Go.Proofs.YtgfmjmfphmjdkaaGreatDoor
set_option maxHeartbeats 4000000
section
open Go Go.RowKit
variable {T0 : Gh}
set_option maxRecDepth 100000
attribute [local irreducible] zz zg AW AL AO QY qh z_ rsA Opd xh vA gvA zy qb slA jl ipA rpA EqK LnK IxK LdK FaK FdK
theorem zz8 (l : List Cmd) (hl : l.length ≤ 100000) : AP Tryz.prog T0 167 [slA zc7 l] (I (wv l)):=by
 refine za Tryz.func167 rfl (by decide) Tryz.ntmps167 rfl ?_
 repeat' (first
 |refine g3_ ?_ | (refine zd ?_ ?_ <;> intro hb <;> try exact no_) | (refine sx_ ?_ <;> intro bb) | (refine su_ ?_ <;> intro u hu1 hu2) | fail)
 refine zdc (fun k : Nat=>[(3,I (wv (l.take k))),(8,I k)]) (fun k=>k ≤ l.length) (fun k=>l.length - k) 0 (Nat.zero_le _) ?_
 rintro k i1
 have hle:=zow (l.take k)
 rw [List.length_take] at hle
 by_cases hlt : k < l.length
 ·have hn:=zqt l k hlt
  unfold zcl at hn
  repeat' (first
  |refine g3_ ?_ | (refine zd ?_ ?_ <;> intro hb <;> try exact no_) | (refine sx_ ?_ <;> intro bb) | (refine su_ ?_ <;> intro u hu1 hu2) | fail)
  ·rw [if_neg (by rw [hb]; decide)] at hn
   exact ⟨k + 1,by omega,by omega,by rw [hn]; exact wx_,sl_⟩
  ·rename_i e1; rw [if_pos e1,if_pos hb] at hn
   exact ⟨k + 1,by omega,by omega,by rw [hn]; exact wx_,sl_⟩
  ·rename_i e1 e2; rw [if_pos e1,if_neg e2,if_pos hb] at hn
   exact ⟨k + 1,by omega,by omega,by rw [hn]; exact wx_,sl_⟩
  ·rename_i e1 e2; rw [if_pos e1,if_neg e2,if_neg hb] at hn
   exact ⟨k + 1,by omega,by omega,by rw [hn]; exact wx_,sl_⟩
 ·repeat' (first
  |refine g3_ ?_ | (refine zd ?_ ?_ <;> intro hb <;> try exact no_) | (refine sx_ ?_ <;> intro bb) | (refine su_ ?_ <;> intro u hu1 hu2) | fail)
  exact ⟨_,[],rs_,List.nil_sublist _,Sub.eq (by rw [List.take_of_length_le (by omega)]),rfl⟩
end
section
open Go Go.RowKit
variable {T0 : Gh}
set_option maxRecDepth 100000
attribute [local irreducible] zz zg AW AL AO QY qh z_ rsA Opd xh vA gvA zy qb slA jl ipA rpA EqK LnK IxK LdK FaK FdK
end
end Go.Proofs.YtgfmjmfphmjdkaaGreatDoor
