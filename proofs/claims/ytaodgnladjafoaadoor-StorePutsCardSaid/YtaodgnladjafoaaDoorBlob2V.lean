/- blob.Get where a text lies on the disk; where none may. -/
import Derived.Test.YtaodgnladjafoaaDoorBlob1V
set_option linter.unusedVariables false
set_option linter.unusedSimpArgs false
namespace Go.Proofs.YtaodgnladjafoaaDoor.Blb
open Go.Proofs.YtaodgnladjafoaaDoor.AdM (sum)
open Go.RowKit Go.Proofs.YtaodgnladjafoaaDoor.QStorePuts Go.Proofs.YtaodgnladjafoaaDoorW.PrintWords Go.Proofs.YtaodgnladjafoaaDoorW.PrintLast Go.Proofs.YtaodgnladjafoaaDoorW.PrintMore Go.Proofs.YtaodgnladjafoaaDoor.CdM Go.Proofs.YtaodgnladjafoaaDoor.Md Go.Proofs.YtaodgnladjafoaaDoor.Dk
open Go.Extern.Stop (cell)
open Go.Proofs.YtaodgnladjafoaaDoor.Err (Laid IsErr code_nil Chain at_some at_nil)
/-- a sector's bytes as numbers -/
def bi (p : Pg) : List Int := p.1.map fun b => (b.toNat : Int)
theorem bi_length (p : Pg) : (bi p).length = 64 := by simp [bi, p.2]
/-- the bytes of the sectors from x on -/
def gs (d : Dsk) (x : Int) : Nat → List Int
  | 0 => []
  | n + 1 => gs d x n ++ bi (rd d (x + (n : Int)))
theorem info5 : (Tryd.prog.info? 5).map (fun i => (i.zero, i.size, i.bytes)) = some (some (.int .u8 0), 1, 1) := by kernel_rfl
end Go.Proofs.YtaodgnladjafoaaDoor.Blb
