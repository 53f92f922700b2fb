/- Programs' clauses as they come in. -/
import Derived.Test.YtdaldilmjhdpaaaRead
import Derived.Test.YtdaldilmjhdpaaaData
namespace Go.Proofs.Ytdaldilmjhdpaaa
open Go Go.Ev Edict
theorem rp_int : Reads Try.prog 3 Int := reads_int Try.underlying3
theorem rp_int64 : Reads Try.prog 2 Int := reads_int Try.underlying2
theorem rp_str : Reads Try.prog 9 (List UInt8) := reads_str Try.underlying9
theorem rp_term : Reads Try.prog 43 Term := reads_struct Try.underlying43 (by kernel_rfl) (readsF_cons rp_int (by kernel_rfl) (by kernel_rfl) (readsF_cons rp_int64 (by kernel_rfl) (by kernel_rfl) (readsF_cons rp_str (by kernel_rfl) (by kernel_rfl) (readsF_one rp_int (by kernel_rfl) (by kernel_rfl)))))
theorem rp_terms : Reads Try.prog 25 (List Term) := reads_slice Try.underlying25 (by kernel_rfl) rp_term
theorem rp_atom : Reads Try.prog 27 Atom := reads_struct Try.underlying27 (by kernel_rfl) (readsF_cons rp_str (by kernel_rfl) (by kernel_rfl) (readsF_cons rp_terms (by kernel_rfl) (by kernel_rfl) (readsF_one rp_int (by kernel_rfl) (by kernel_rfl))))
theorem rp_literal : Reads Try.prog 49 Literal := reads_struct Try.underlying49 (by kernel_rfl) (readsF_cons rp_int (by kernel_rfl) (by kernel_rfl) (readsF_cons rp_atom (by kernel_rfl) (by kernel_rfl)
  (readsF_cons rp_int (by kernel_rfl) (by kernel_rfl) (readsF_cons rp_term (by kernel_rfl) (by kernel_rfl) (readsF_cons rp_term (by kernel_rfl) (by kernel_rfl) (readsF_one rp_int (by kernel_rfl) (by kernel_rfl)))))))
theorem rp_literals : Reads Try.prog 29 (List Literal) := reads_slice Try.underlying29 (by kernel_rfl) rp_literal
theorem rp_clause : Reads Try.prog 31 Clause := reads_struct Try.underlying31 (by kernel_rfl) (readsF_cons rp_atom (by kernel_rfl) (by kernel_rfl) (readsF_one rp_literals (by kernel_rfl) (by kernel_rfl)))
theorem rp_clauses : Reads Try.prog 22 (List Clause) := reads_slice Try.underlying22 (by kernel_rfl) rp_clause
end Go.Proofs.Ytdaldilmjhdpaaa
