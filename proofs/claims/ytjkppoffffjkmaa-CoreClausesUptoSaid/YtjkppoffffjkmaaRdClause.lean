/- Programs' clauses as they come in. -/
import Derived.Test.YtjkppoffffjkmaaRead
import Derived.Test.YtjkppoffffjkmaaData
namespace Go.Proofs.Ytjkppoffffjkmaa
open Go Go.Ev Edict
theorem rp_int : Reads Try.prog 3 Int := reads_int Try.underlying3
theorem rp_int64 : Reads Try.prog 2 Int := reads_int Try.underlying2
theorem rp_str : Reads Try.prog 9 (List UInt8) := reads_str Try.underlying9
theorem rp_term : Reads Try.prog 66 Term := reads_struct Try.underlying66 (by kernel_rfl) (readsF_cons rp_int (by kernel_rfl) (by kernel_rfl) (readsF_cons rp_int64 (by kernel_rfl) (by kernel_rfl) (readsF_cons rp_str (by kernel_rfl) (by kernel_rfl) (readsF_one rp_int (by kernel_rfl) (by kernel_rfl)))))
theorem rp_terms : Reads Try.prog 28 (List Term) := reads_slice Try.underlying28 (by kernel_rfl) rp_term
theorem rp_atom : Reads Try.prog 30 Atom := reads_struct Try.underlying30 (by kernel_rfl) (readsF_cons rp_str (by kernel_rfl) (by kernel_rfl) (readsF_cons rp_terms (by kernel_rfl) (by kernel_rfl) (readsF_one rp_int (by kernel_rfl) (by kernel_rfl))))
theorem rp_literal : Reads Try.prog 68 Literal := reads_struct Try.underlying68 (by kernel_rfl) (readsF_cons rp_int (by kernel_rfl) (by kernel_rfl) (readsF_cons rp_atom (by kernel_rfl) (by kernel_rfl)
  (readsF_cons rp_int (by kernel_rfl) (by kernel_rfl) (readsF_cons rp_term (by kernel_rfl) (by kernel_rfl) (readsF_cons rp_term (by kernel_rfl) (by kernel_rfl) (readsF_one rp_int (by kernel_rfl) (by kernel_rfl)))))))
theorem rp_literals : Reads Try.prog 31 (List Literal) := reads_slice Try.underlying31 (by kernel_rfl) rp_literal
theorem rp_clause : Reads Try.prog 33 Clause := reads_struct Try.underlying33 (by kernel_rfl) (readsF_cons rp_atom (by kernel_rfl) (by kernel_rfl) (readsF_one rp_literals (by kernel_rfl) (by kernel_rfl)))
theorem rp_clauses : Reads Try.prog 48 (List Clause) := reads_slice Try.underlying48 (by kernel_rfl) rp_clause
end Go.Proofs.Ytjkppoffffjkmaa
