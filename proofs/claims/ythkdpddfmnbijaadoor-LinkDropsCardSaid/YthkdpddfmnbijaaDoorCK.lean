/- How a link that is handed in is read. No condition. -/
import Derived.Test.YthkdpddfmnbijaaDoorRD
import Derived.Test.YthkdpddfmnbijaaDoorCV
import Derived.Test.YthkdpddfmnbijaaDoorK1
namespace Go.Proofs.YthkdpddfmnbijaaDoor
set_option linter.unusedSimpArgs false
set_option linter.unusedVariables false
set_option maxHeartbeats 4000000
open Go.ChangeShapes Go.WideShapes Go.ChangeAt Go.RowKit
set_option maxRecDepth 100000
theorem rdf_i64 : RdF Tryd.prog 3 (fun n : Int => [I n]) (fun n => (Lit.int .i64 n).wf = true) := rdf_int Tryd.underlying3
theorem rdf_b : RdF Tryd.prog 4 (fun b : Bool => [B b]) (fun _ => True) := rdf_bool un_bool
theorem rdf_cmds : RdF Tryd.prog 29 (fun l : List Cmd => [slA cmdT l]) (fun _ => True) := (rdf_sl rd_cmd un_cmds).any
theorem rdf_link : RdF Tryd.prog 36 (fun k : Int × List Cmd × Int × Int × Bool => [I k.1, slA cmdT k.2.1, I k.2.2.1, I k.2.2.2.1, B k.2.2.2.2]) (fun _ => True) := by
  have h := rdf_struct us_link (by kernel_rfl) (rdl_cons rdf_i64 (by kernel_rfl) (rdl_cons rdf_cmds (by kernel_rfl) (rdl_cons rdf_i64 (by kernel_rfl) (rdl_cons rdf_i64 (by kernel_rfl) (rdl_one rdf_b (by kernel_rfl))))))
  exact h.any
end Go.Proofs.YthkdpddfmnbijaaDoor
