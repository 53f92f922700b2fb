/- Programs as they come in. -/
import Derived.Test.YtdaldilmjhdpaaaRdClause
namespace Go.Proofs.Ytdaldilmjhdpaaa
open Go Go.Ev Edict
theorem rp_program : Reads Try.prog 24 (List Clause) := reads_struct Try.underlying24 (by kernel_rfl) (readsF_one rp_clauses (by kernel_rfl) (by kernel_rfl))
end Go.Proofs.Ytdaldilmjhdpaaa
