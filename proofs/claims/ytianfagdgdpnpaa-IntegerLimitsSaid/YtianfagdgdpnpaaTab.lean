/- This program's table of types. -/
import Derived.Test.YtianfagdgdpnpaaProg
import Derived.Test.YtianfagdgdpnpaaMem3
import Derived.KernelRfl
namespace Go.Qf
open Go Go.RowKit Go.Proofs

def TB : List (Nat × TI) :=
  [(41, ⟨.int .u32, 1, 4, .int .u32 0⟩), (22, ⟨.slice 41, 1, 24, .slice none 0 0⟩), (3, ⟨.int .i64, 1, 8, .int .i64 0⟩), (54, ⟨.int .u64, 1, 8, .int .u64 0⟩),
   (4, ⟨.bool, 1, 1, .bool false⟩),
   (24, ⟨.struct #[{ name := "Neg", type := 4, offset := 0, embedded := false, tag := "", pkgPath := "", byteOffset := 0 }, { name := "Mag", type := 22, offset := 1, embedded := false, tag := "", pkgPath := "", byteOffset := 8 }], 2, 32, .agg #[.bool false, .slice none 0 0]⟩),
   (2, ⟨.int .i64, 1, 8, .int .i64 0⟩), (9, ⟨.string, 1, 16, .string ByteArray.empty⟩), (5, ⟨.int .u8, 1, 1, .int .u8 0⟩), (50, ⟨.slice 5, 1, 24, .slice none 0 0⟩), (21, ⟨.int .i32, 1, 4, .int .i32 0⟩)]

theorem TBok : TblOk Try.prog TB := by
  unfold TB
  refine TblOk.cons Try.underlying41 (by kernel_rfl) ?_
  refine TblOk.cons Try.underlying22 (by kernel_rfl) ?_
  refine TblOk.cons Try.underlying3 (by kernel_rfl) ?_
  refine TblOk.cons Try.underlying54 (by kernel_rfl) ?_
  refine TblOk.cons Try.underlying4 (by kernel_rfl) ?_
  refine TblOk.cons Try.underlying24 (by kernel_rfl) ?_
  refine TblOk.cons Try.underlying2 (by kernel_rfl) ?_
  refine TblOk.cons Try.underlying9 (by kernel_rfl) ?_
  refine TblOk.cons Try.underlying5 (by kernel_rfl) ?_
  refine TblOk.cons Try.underlying50 (by kernel_rfl) ?_
  refine TblOk.cons Try.underlying21 (by kernel_rfl) ?_
  exact TblOk.nil _

end Go.Qf
