/- The law's card: the function answers true, whatever it is given. No condition. -/
import Derived.Test.YtgfmjmfphmjdkaaGreatDoorR3JX
import Derived.Test.YtgfmjmfphmjdkaaGreatDoorR3CZ
set_option linter.unusedSimpArgs false
set_option linter.unusedVariables false
set_option linter.unusedSectionVars false
namespace Go.Proofs.YtgfmjmfphmjdkaaGreatDoor
set_option maxHeartbeats 4000000
open Go.ChangeShapes Go.WideShapes Go.ChangeAt Go.RowKit
namespace pumpSound
set_option maxRecDepth 100000
theorem plainParams : ∀ t ∈ Tryz.f10.params.toList,Tryz.prog.readableRec t = true ∧ t < Tryz.prog.types.size:=by
 rw [Tryz.params10]
 intro t ht
 simp only [List.mem_cons,List.not_mem_nil,or_false] at ht
 rcases ht with rfl | rfl | rfl <;> exact ⟨by kernel_rfl,of_decide_eq_true (by kernel_rfl)⟩
theorem contract (H : Type) (enc : TypeId × Value → H) (W : World) (base : Nat) (args : Array Value) (ds gs : List (DataW H)) (before : List MemPlace)
  (hval : ∀ (j : Nat) t v,Tryz.f10.params[j]? = some t → args[j]? = some v → Value.okWide Tryz.prog W .any base t v)
  (hW : DataW.Whole enc Tryz.prog Tryz.f10.params.toList Rows.pumpSoundSpec.vars false W args.toList ds gs before) (hL : laidMetH Tryz.prog Rows.pumpSoundRow.laid W) :
  Calls Tryz.prog 10 args W fun e W' => ∃ v,e = .returned v ∧ Rows.pumpSoundSpec.post enc Tryz.prog Tryz.f10 false true false false W args v W':=by
 have hW':=hW
 obtain ⟨p,q,hA0,hV,_,hfz,hnd⟩:=hW
 have hA : DataW.TrodAll enc Tryz.prog W 0 (fun _=>true) true Tryz.f10.params.toList args.toList ds p:=hA0
 rw [Tryz.params10] at hA hval
 obtain ⟨v0,vs0,d0,ds0,p0,q0,g0,k0,m0,h0,r0⟩:=trodAll_cons hA
 subst k0
 obtain ⟨v1,vs1,d1,ds1,p1,q1,g1,k1,m1,h1,r1⟩:=trodAll_cons r0
 subst g1; subst k1
 obtain ⟨v2,vs2,d2,ds2,p2,q2,g2,k2,m2,h2,r2⟩:=trodAll_cons r1
 subst g2; subst k2
 obtain ⟨gn,kn,_⟩:=trodAll_nil r2
 subst gn; subst kn
 obtain rfl : args = #[v0,v1,v2]:=by cases args; simp_all
 obtain ⟨hg,_⟩:=trodVars_none hV
 subst hg
 obtain ⟨a0,rep0,_⟩:=zif zle yr (hval 0 29 v0 rfl rfl) h0
 obtain ⟨a1,rep1⟩:=z6l (k:=6) zle (by kernel_rfl) (by decide) z1j (hval 1 72 v1 rfl rfl) h1
 obtain ⟨a2,rep2,ok2⟩:=zy0 z98 z1k (hval 2 73 v2 rfl rfl) h2
 exact ((znj a0 a1 a2 (fun s hs=>(z8r (ok2 s hs).2.1).2)).calls W (zaf W) [] W [v0,v1,v2] (zm1 (zbz hL (by repeat' (first | exact List.Mem.head _ | apply List.Mem.tail)) (by repeat' (first | exact List.Mem.head _ | apply List.Mem.tail)) (by repeat' (first | exact List.Mem.head _ | apply List.Mem.tail)))) ⟨rep0,⟨rep1,⟨rep2,trivial⟩⟩⟩).mono fun e W' h=>zkr zni plainParams rfl rfl zdq hW' rfl h
theorem laid_met (os : Os) : laidMet Tryz.prog Rows.pumpSoundRow.laid ((vc os).forCall (fun _ _=>0) ⟨#[], #[Value.agg #[.int .i64 0,.int .i64 0,.slice none 0 0,.int .i64 0,.int .i64 0,.bool false],Value.slice none 0 0,Value.slice none 0 0],[]⟩).memory :=
 laidMet_of_run' 8 (by kernel_rfl) (by kernel_rfl)
theorem reads (os : Os) {H : Type} (enc : TypeId × Value → H) : ∃ places,DataW.whole enc Tryz.prog ((vc os).forCall (fun _ _=>0) ⟨#[], #[Value.agg #[.int .i64 0,.int .i64 0,.slice none 0 0,.int .i64 0,.int .i64 0,.bool false],Value.slice none 0 0,Value.slice none 0 0],[]⟩).memory Tryz.f10.params.toList Rows.pumpSoundSpec.vars false (#[Value.agg #[.int .i64 0,.int .i64 0,.slice none 0 0,.int .i64 0,.int .i64 0,.bool false],Value.slice none 0 0,Value.slice none 0 0] : Array Value).toList 8 = some ([.agg [.agg [.lit (.int .i64 0),.lit (.int .i64 0),.nil],.lit (.int .i64 0),.lit (.int .i64 0),.lit (.bool false)],.nil,.nil],[],places) :=
 ⟨[],by kernel_rfl⟩
theorem lifted (os : Os) (started : os.Started) (H : Type) (enc : TypeId × Value → H) (F : Stop.Interp) :
  ReturnsInHanded {} Tryz.checked os 10 .any ((OpenSpec.ofChange Rows.pumpSoundSpec).preRow enc Tryz.prog Tryz.f10 Rows.pumpSoundRow.domain false Rows.pumpSoundRow.laid) (((OpenSpec.ofChange Rows.pumpSoundSpec).at F).post enc Tryz.prog Tryz.f10 false true false false):=by
 obtain ⟨places,hx⟩:=reads os enc
 refine returnsInHanded_of_row (C:=Tryz.checked) (s:=OpenSpec.ofChange Rows.pumpSoundSpec) own started (by kernel_rfl) Tryz.func10
  (witness_row_at (enc:=enc) (C:=Tryz.checked) false (vc os) #[Value.agg #[.int .i64 0,.int .i64 0,.slice none 0 0,.int .i64 0,.int .i64 0,.bool false],Value.slice none 0 0,Value.slice none 0 0] rfl (by kernel_rfl) (by kernel_rfl) (by kernel_rfl)
   (OpenSpec.preRow_of_cond 8 hx (by kernel_rfl) (fun k hk=>by cases hk) (by kernel_rfl) (laid_met os))) ?_
 intro W base args ds gs before hval hW _ hcond _ hL _ _
 exact contract H enc W base args ds gs before hval hW hL
theorem said : Rows.PumpSoundSaid :=
 OpenClaim.holds_of_cond 10 Tryz.f10 rfl rfl rfl rfl rfl rfl rfl ⟨rfl,rfl,rfl,rfl,rfl⟩ rfl rfl rfl rfl rfl (by kernel_rfl) Tryz.func10 (by kernel_rfl)
  (of_decide_eq_true (by kernel_rfl)) (by unfold Func.isWrapper; first | (rw [if_pos (by decide +kernel)]; kernel_rfl) | (rw [if_neg (by decide +kernel)]; exact ⟨rfl,rfl⟩))
  (fun os started H enc _ F=>by rw [OpenClaim.pre_eq_preRow]; exact lifted os started H enc F)
theorem plain (f : FuncId) (fn : Func) (hf : Tryz.pinned.checked.prog.funcNamed "typebar/typebarlaw30.PumpSound" = some f) (hfn : Tryz.pinned.checked.prog.funcs[f]? = some fn) :
  true = Tryz.pinned.checked.prog.looks [] ∧ ∀ (j : Nat) t,fn.params[j]? = some t → Tryz.pinned.checked.prog.wantsStandIn t = false:=by
 obtain rfl : f = 10:=Option.some.inj ((show Tryz.prog.funcNamed "typebar/typebarlaw30.PumpSound" = some 10 by kernel_rfl).symm.trans hf) |>.symm
 obtain rfl : fn = Tryz.f10:=(Option.some.inj (Tryz.func10.symm.trans hfn)).symm
 refine ⟨by kernel_rfl,fun j t ht => ?_⟩
 rw [Tryz.params10] at ht
 have ht':=Array.mem_of_getElem? ht
 simp only [List.mem_toArray,List.mem_cons,List.not_mem_nil,or_false] at ht'
 rcases ht' with rfl | rfl | rfl
 ·exact (show Tryz.prog.wantsStandIn 29 = false by kernel_rfl)
 ·exact (show Tryz.prog.wantsStandIn 72 = false by kernel_rfl)
 ·exact (show Tryz.prog.wantsStandIn 73 = false by kernel_rfl)
theorem card : Rows.PumpSoundCardSaid :=
 Claim7.holds_tied_plain_at .later [] _ _ _ _ said (fun _ h=>by cases h) (by kernel_rfl) (fun _ h=>by cases h) pumpSound_row_tie rfl ⟨rfl,rfl⟩ (by kernel_rfl) rfl plain (by kernel_rfl)
end pumpSound
end Go.Proofs.YtgfmjmfphmjdkaaGreatDoor
