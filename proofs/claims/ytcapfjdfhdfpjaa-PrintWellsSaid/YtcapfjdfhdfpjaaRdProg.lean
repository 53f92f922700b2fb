/- Programs' clauses as they come in. -/
import Derived.Test.YtcapfjdfhdfpjaaRead
import Derived.Test.YtcapfjdfhdfpjaaData
namespace Go.Proofs.Ytcapfjdfhdfpjaa
open Go Go.Ev Edict
theorem rp_int : Reads Try.prog 3 Int := reads_int Try.underlying3
theorem rp_int64 : Reads Try.prog 2 Int := reads_int Try.underlying2
theorem rp_str : Reads Try.prog 9 (List UInt8) := reads_str Try.underlying9
theorem rp_term : Reads Try.prog 39 Term := reads_struct Try.underlying39 (by kernel_rfl) (readsF_cons rp_int (by kernel_rfl) (by kernel_rfl) (readsF_cons rp_int64 (by kernel_rfl) (by kernel_rfl) (readsF_cons rp_str (by kernel_rfl) (by kernel_rfl) (readsF_one rp_int (by kernel_rfl) (by kernel_rfl)))))
theorem rp_terms : Reads Try.prog 29 (List Term) := reads_slice Try.underlying29 (by kernel_rfl) rp_term
theorem rp_atom : Reads Try.prog 31 Atom := reads_struct Try.underlying31 (by kernel_rfl) (readsF_cons rp_str (by kernel_rfl) (by kernel_rfl) (readsF_cons rp_terms (by kernel_rfl) (by kernel_rfl) (readsF_one rp_int (by kernel_rfl) (by kernel_rfl))))
theorem rp_literal : Reads Try.prog 41 Literal := reads_struct Try.underlying41 (by kernel_rfl) (readsF_cons rp_int (by kernel_rfl) (by kernel_rfl) (readsF_cons rp_atom (by kernel_rfl) (by kernel_rfl)
  (readsF_cons rp_int (by kernel_rfl) (by kernel_rfl) (readsF_cons rp_term (by kernel_rfl) (by kernel_rfl) (readsF_cons rp_term (by kernel_rfl) (by kernel_rfl) (readsF_one rp_int (by kernel_rfl) (by kernel_rfl)))))))
theorem rp_literals : Reads Try.prog 32 (List Literal) := reads_slice Try.underlying32 (by kernel_rfl) rp_literal
theorem rp_clause : Reads Try.prog 34 Clause := reads_struct Try.underlying34 (by kernel_rfl) (readsF_cons rp_atom (by kernel_rfl) (by kernel_rfl) (readsF_one rp_literals (by kernel_rfl) (by kernel_rfl)))
theorem rp_clauses : Reads Try.prog 22 (List Clause) := reads_slice Try.underlying22 (by kernel_rfl) rp_clause
theorem rp_program : Reads Try.prog 24 (List Clause) := reads_struct Try.underlying24 (by kernel_rfl) (readsF_one rp_clauses (by kernel_rfl) (by kernel_rfl))
end Go.Proofs.Ytcapfjdfhdfpjaa
