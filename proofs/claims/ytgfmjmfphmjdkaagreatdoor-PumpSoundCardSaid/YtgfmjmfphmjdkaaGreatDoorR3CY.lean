/- How a pump that is handed in is read. No condition. -/
import Derived.Test.YtgfmjmfphmjdkaaGreatDoorR3ZY
import Derived.Test.YtgfmjmfphmjdkaaGreatDoorR3KR
set_option linter.unusedSimpArgs false
set_option linter.unusedVariables false
set_option linter.unusedSectionVars false
namespace Go.Proofs.YtgfmjmfphmjdkaaGreatDoor
set_option maxHeartbeats 4000000
open Go.ChangeShapes Go.WideShapes Go.ChangeAt Go.RowKit
set_option maxRecDepth 100000
theorem zyx : RdF Tryz.prog 45 (fun l : List Cmd=>[slA zc7 l]) (fun _=>True):=(zou z6n zsx).any
theorem zyv : RdF Tryz.prog 47 (fun k : Lk=>[I k.1,slA zc7 k.2.1,I k.2.2.1,I k.2.2.2.1,B k.2.2.2.2]) (fun _=>True):=by
 have h:=y6 zby (by kernel_rfl) (ji wu (by kernel_rfl) (ji zyx (by kernel_rfl) (ji wu (by kernel_rfl) (ji wu (by kernel_rfl) (zgc zyz (by kernel_rfl))))))
 exact h.any
theorem z99 : Rd Tryz.prog spT 117 fun c=>(Lit.int .i64 c.1).wf = true ∧ (Lit.int .i64 c.2).wf = true :=
 ⟨by kernel_rfl,by decide,fun enc w sp hd fuel cs x h=>by
  obtain ⟨xs,n,_,_,hl,hn,hf⟩:=DataW.trod_struct zx0 h
  have hl2 : cs.length = 2:=hl.trans (by kernel_rfl)
  obtain ⟨a,b,rfl⟩ : ∃ a b,cs = [a,b]:=by
   match cs,hl2 with
   |[a,b],_=>exact ⟨a,b,rfl⟩
  have hn2 : xs.length = 2:=hn
  obtain ⟨x0,x1,rfl⟩ : ∃ a b,xs = [a,b]:=by
   match xs,hn2 with
   |[a,b],_=>exact ⟨a,b,rfl⟩
  have c1 : Tryz.prog.cellsOf 3 = 1:=by kernel_rfl
  have h0 : DataW.trod enc Tryz.prog w 0 sp hd n 3 (([a,b].drop 0).take (Tryz.prog.cellsOf 3)) = some x0:=hf 0 _ rfl
  have h1 : DataW.trod enc Tryz.prog w 0 sp hd n 3 (([a,b].drop 1).take (Tryz.prog.cellsOf 3)) = some x1:=hf 1 _ rfl
  rw [c1] at h0 h1
  obtain ⟨n0,e0,_,w0⟩:=DataW.trod_int Tryz.underlying3 h0
  obtain ⟨n1,e1,_,w1⟩:=DataW.trod_int Tryz.underlying3 h1
  simp only [List.drop_zero,List.take_succ_cons,List.take_zero,List.drop_succ_cons,List.cons.injEq,and_true] at e0 e1
  exact ⟨(n0,n1),by rw [e0,e1]; rfl,w0,w1⟩⟩
theorem z3c : RdF Tryz.prog 48 (fun l : List (Int × Int)=>[slA spT l]) (fun _=>True):=(zou z99 z1l).any
theorem z1o : RdF Tryz.prog 50 (fun p : Pu=>puC p) (fun _=>True):=by
 have h:=y6 zmv (by kernel_rfl) (ji z3f (by kernel_rfl) (ji zyv (by kernel_rfl) (zgc z3c (by kernel_rfl))))
 exact h.any
theorem zle : RdF Tryz.prog 29 (fun t : Tm=>tmC t) (fun _=>True):=⟨fun enc w fuel cs x h =>
 let ⟨b,h1,_⟩:=zyu.of enc w fuel cs x h
 ⟨(b.1.1,b.1.2.1,b.1.2.2,b.2.1,b.2.2.1,b.2.2.2),h1,trivial⟩⟩
end Go.Proofs.YtgfmjmfphmjdkaaGreatDoor
