/- Cores as they come in. -/
import Derived.Test.YtjkppoffffjkmaaRead
import Derived.Test.YtjkppoffffjkmaaBack
namespace Go.Proofs.Ytjkppoffffjkmaa
open Go Go.Ev Edict
theorem rd_int : Reads Try.prog 3 Int := reads_int Try.underlying3
theorem rd_int64 : Reads Try.prog 2 Int := reads_int Try.underlying2
theorem rd_bool : Reads Try.prog 4 Bool := reads_bool Try.underlying4
theorem rd_str : Reads Try.prog 9 (List UInt8) := reads_str Try.underlying9
theorem rd_slot : Reads Try.prog 70 Slot := reads_struct Try.underlying70 (by kernel_rfl) (readsF_cons rd_bool (by kernel_rfl) (by kernel_rfl) (readsF_one rd_int (by kernel_rfl) (by kernel_rfl)))
theorem rd_pred : Reads Try.prog 80 Pred := reads_struct Try.underlying80 (by kernel_rfl) (readsF_cons rd_str (by kernel_rfl) (by kernel_rfl) (readsF_one rd_int (by kernel_rfl) (by kernel_rfl)))
theorem rd_const : Reads Try.prog 46 Const := reads_struct Try.underlying46 (by kernel_rfl) (readsF_cons rd_int (by kernel_rfl) (by kernel_rfl) (readsF_cons rd_int64 (by kernel_rfl) (by kernel_rfl) (readsF_one rd_str (by kernel_rfl) (by kernel_rfl))))
theorem rd_ints : Reads Try.prog 42 (List Int) := reads_slice Try.underlying42 (by kernel_rfl) rd_int
theorem rd_row : Reads Try.prog 44 Row := reads_struct Try.underlying44 (by kernel_rfl) (readsF_cons rd_int (by kernel_rfl) (by kernel_rfl) (readsF_one rd_ints (by kernel_rfl) (by kernel_rfl)))
theorem rd_slots : Reads Try.prog 54 (List Slot) := reads_slice Try.underlying54 (by kernel_rfl) rd_slot
theorem rd_pattern : Reads Try.prog 56 Pattern := reads_struct Try.underlying56 (by kernel_rfl) (readsF_cons rd_int (by kernel_rfl) (by kernel_rfl) (readsF_one rd_slots (by kernel_rfl) (by kernel_rfl)))
theorem rd_patterns : Reads Try.prog 57 (List Pattern) := reads_slice Try.underlying57 (by kernel_rfl) rd_pattern
theorem rd_test : Reads Try.prog 72 Test := reads_struct Try.underlying72 (by kernel_rfl) (readsF_cons rd_int (by kernel_rfl) (by kernel_rfl) (readsF_cons rd_slot (by kernel_rfl) (by kernel_rfl) (readsF_one rd_slot (by kernel_rfl) (by kernel_rfl))))
theorem rd_tests : Reads Try.prog 58 (List Test) := reads_slice Try.underlying58 (by kernel_rfl) rd_test
theorem rd_strs : Reads Try.prog 49 (List (List UInt8)) := reads_slice Try.underlying49 (by kernel_rfl) rd_str
theorem rd_rule : Reads Try.prog 60 Rule := reads_struct Try.underlying60 (by kernel_rfl) (readsF_cons rd_pattern (by kernel_rfl) (by kernel_rfl) (readsF_cons rd_patterns (by kernel_rfl) (by kernel_rfl)
  (readsF_cons rd_tests (by kernel_rfl) (by kernel_rfl) (readsF_cons rd_patterns (by kernel_rfl) (by kernel_rfl) (readsF_cons rd_strs (by kernel_rfl) (by kernel_rfl) (readsF_one rd_int (by kernel_rfl) (by kernel_rfl)))))))
theorem rd_preds : Reads Try.prog 22 (List Pred) := reads_slice Try.underlying22 (by kernel_rfl) rd_pred
theorem rd_consts : Reads Try.prog 23 (List Const) := reads_slice Try.underlying23 (by kernel_rfl) rd_const
theorem rd_rules : Reads Try.prog 24 (List Rule) := reads_slice Try.underlying24 (by kernel_rfl) rd_rule
theorem rd_rows : Reads Try.prog 25 (List Row) := reads_slice Try.underlying25 (by kernel_rfl) rd_row
theorem rd_core : Reads Try.prog 27 Core := reads_struct Try.underlying27 (by kernel_rfl) (readsF_cons rd_preds (by kernel_rfl) (by kernel_rfl) (readsF_cons rd_consts (by kernel_rfl) (by kernel_rfl)
  (readsF_cons rd_rules (by kernel_rfl) (by kernel_rfl) (readsF_one rd_rows (by kernel_rfl) (by kernel_rfl)))))
end Go.Proofs.Ytjkppoffffjkmaa
