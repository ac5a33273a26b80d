/- The table of this seat's types. -/
import Derived.Test.YtfldnpjmkllekaaFm
namespace Go.Proofs.Ytfldnpjmkllekaa.Ab
set_option linter.unusedVariables false
set_option linter.unusedSimpArgs false
open Go.RowKit

def tabL : List (Nat × TI) := [
  (2, ⟨.int .i64, 1, 8, [.i (.sc (.int .i64 0))], false⟩),
  (3, ⟨.int .i64, 1, 8, [.i (.sc (.int .i64 0))], false⟩),
  (4, ⟨.bool, 1, 1, [.i (.sc (.bool false))], false⟩),
  (5, ⟨.int .u8, 1, 1, [.i (.sc (.int .u8 0))], false⟩),
  (9, ⟨.str, 1, 16, [.i (.sc (.string ByteArray.empty))], false⟩),
  (12, ⟨.int .u64, 1, 8, [.i (.sc (.int .u64 0))], false⟩),
  (21, ⟨.int .i32, 1, 4, [.i (.sc (.int .i32 0))], false⟩),
  (23, ⟨.int .u64, 1, 8, [.i (.sc (.int .u64 0))], false⟩),
  (25, ⟨.int .i64, 1, 8, [.i (.sc (.int .i64 0))], false⟩),
  (33, ⟨.struct [(0, 3), (1, 3), (2, 3), (3, 3), (4, 9)], 5, 48, [.i (.sc (.int .i64 0)), .i (.sc (.int .i64 0)), .i (.sc (.int .i64 0)), .i (.sc (.int .i64 0)), .i (.sc (.string ByteArray.empty))], true⟩),
  (34, ⟨.struct [(0, 3), (1, 3), (2, 3), (3, 3), (4, 9)], 5, 48, [.i (.sc (.int .i64 0)), .i (.sc (.int .i64 0)), .i (.sc (.int .i64 0)), .i (.sc (.int .i64 0)), .i (.sc (.string ByteArray.empty))], true⟩),
  (42, ⟨.slice 3, 1, 24, [.nl], false⟩),
  (44, ⟨.ptr 70, 1, 8, [.i (.sc (.pointer none))], false⟩),
  (49, ⟨.slice 5, 1, 24, [.nl], false⟩),
  (55, ⟨.int .u16, 1, 2, [.i (.sc (.int .u16 0))], false⟩),
  (57, ⟨.slice 9, 1, 24, [.nl], false⟩),
  (62, ⟨.int .u32, 1, 4, [.i (.sc (.int .u32 0))], false⟩),
  (63, ⟨.slice 34, 1, 24, [.nl], false⟩),
  (69, ⟨.struct [(0, 42), (1, 3)], 2, 32, [.nl, .i (.sc (.int .i64 0))], false⟩),
  (70, ⟨.struct [(0, 42), (1, 3)], 2, 32, [.nl, .i (.sc (.int .i64 0))], false⟩),
  (80, ⟨.struct [(0, 79), (1, 49)], 2, 32, [.i (.sc (.pointer none)), .nl], false⟩),
  (81, ⟨.struct [(0, 79), (1, 49)], 2, 32, [.i (.sc (.pointer none)), .nl], false⟩),
  (93, ⟨.int .u64, 1, 8, [.i (.sc (.int .u64 0))], false⟩)]
def tab : Nat → TI := look tabL
theorem tabOk : TabOk Try.prog tab := tab_ok (
  ⟨good_mk (z := .int .i64 0) (by kernel_rfl) rfl (agg_no rfl rfl) rfl (by simp [Value.cells, Value.oneCell']) (show DescOk _ _ _ from Try.underlying2) no_eqs,
  good_mk (z := .int .i64 0) (by kernel_rfl) rfl (agg_no rfl rfl) rfl (by simp [Value.cells, Value.oneCell']) (show DescOk _ _ _ from Try.underlying3) no_eqs,
  good_mk (z := .bool false) (by kernel_rfl) rfl (agg_no rfl rfl) rfl (by simp [Value.cells, Value.oneCell']) (show DescOk _ _ _ from Try.underlying4) no_eqs,
  good_mk (z := .int .u8 0) (by kernel_rfl) rfl (agg_no rfl rfl) rfl (by simp [Value.cells, Value.oneCell']) (show DescOk _ _ _ from Try.underlying5) no_eqs,
  good_mk (z := .string ByteArray.empty) (by kernel_rfl) rfl (agg_no rfl rfl) rfl (by simp [Value.cells, Value.oneCell']) (show DescOk _ _ _ from Try.underlying9) no_eqs,
  good_mk (z := .int .u64 0) (by kernel_rfl) rfl (agg_no rfl rfl) rfl (by simp [Value.cells, Value.oneCell']) (show DescOk _ _ _ from Try.underlying12) no_eqs,
  good_mk (z := .int .i32 0) (by kernel_rfl) rfl (agg_no rfl rfl) rfl (by simp [Value.cells, Value.oneCell']) (show DescOk _ _ _ from Try.underlying21) no_eqs,
  good_mk (z := .int .u64 0) (by kernel_rfl) rfl (agg_no rfl rfl) rfl (by simp [Value.cells, Value.oneCell']) (show DescOk _ _ _ from Try.underlying23) no_eqs,
  good_mk (z := .int .i64 0) (by kernel_rfl) rfl (agg_no rfl rfl) rfl (by simp [Value.cells, Value.oneCell']) (show DescOk _ _ _ from Try.underlying25) no_eqs,
  good_mk (z := .agg #[.int .i64 0, .int .i64 0, .int .i64 0, .int .i64 0, .string ByteArray.empty]) (by kernel_rfl) rfl (agg_yes rfl rfl) rfl (by simp [Value.cells, Value.oneCell']) (show DescOk _ _ _ from ⟨_, Try.underlying33, rfl⟩) (fun _ => by decide +kernel),
  good_mk (z := .agg #[.int .i64 0, .int .i64 0, .int .i64 0, .int .i64 0, .string ByteArray.empty]) (by kernel_rfl) rfl (agg_yes rfl rfl) rfl (by simp [Value.cells, Value.oneCell']) (show DescOk _ _ _ from ⟨_, Try.underlying34, rfl⟩) (fun _ => by decide +kernel),
  good_mk (z := .slice none 0 0) (by kernel_rfl) rfl (agg_no rfl rfl) rfl (by simp [Value.cells, Value.oneCell']) (show DescOk _ _ _ from Try.underlying42) no_eqs,
  good_mk (z := .pointer none) (by kernel_rfl) rfl (agg_no rfl rfl) rfl (by simp [Value.cells, Value.oneCell']) (show DescOk _ _ _ from Try.underlying44) no_eqs,
  good_mk (z := .slice none 0 0) (by kernel_rfl) rfl (agg_no rfl rfl) rfl (by simp [Value.cells, Value.oneCell']) (show DescOk _ _ _ from Try.underlying49) no_eqs,
  good_mk (z := .int .u16 0) (by kernel_rfl) rfl (agg_no rfl rfl) rfl (by simp [Value.cells, Value.oneCell']) (show DescOk _ _ _ from Try.underlying55) no_eqs,
  good_mk (z := .slice none 0 0) (by kernel_rfl) rfl (agg_no rfl rfl) rfl (by simp [Value.cells, Value.oneCell']) (show DescOk _ _ _ from Try.underlying57) no_eqs,
  good_mk (z := .int .u32 0) (by kernel_rfl) rfl (agg_no rfl rfl) rfl (by simp [Value.cells, Value.oneCell']) (show DescOk _ _ _ from Try.underlying62) no_eqs,
  good_mk (z := .slice none 0 0) (by kernel_rfl) rfl (agg_no rfl rfl) rfl (by simp [Value.cells, Value.oneCell']) (show DescOk _ _ _ from Try.underlying63) no_eqs,
  good_mk (z := .agg #[.slice none 0 0, .int .i64 0]) (by kernel_rfl) rfl (agg_yes rfl rfl) rfl (by simp [Value.cells, Value.oneCell']) (show DescOk _ _ _ from ⟨_, Try.underlying69, rfl⟩) no_eqs,
  good_mk (z := .agg #[.slice none 0 0, .int .i64 0]) (by kernel_rfl) rfl (agg_yes rfl rfl) rfl (by simp [Value.cells, Value.oneCell']) (show DescOk _ _ _ from ⟨_, Try.underlying70, rfl⟩) no_eqs,
  good_mk (z := .agg #[.pointer none, .slice none 0 0]) (by kernel_rfl) rfl (agg_yes rfl rfl) rfl (by simp [Value.cells, Value.oneCell']) (show DescOk _ _ _ from ⟨_, Try.underlying80, rfl⟩) no_eqs,
  good_mk (z := .agg #[.pointer none, .slice none 0 0]) (by kernel_rfl) rfl (agg_yes rfl rfl) rfl (by simp [Value.cells, Value.oneCell']) (show DescOk _ _ _ from ⟨_, Try.underlying81, rfl⟩) no_eqs,
  good_mk (z := .int .u64 0) (by kernel_rfl) rfl (agg_no rfl rfl) rfl (by simp [Value.cells, Value.oneCell']) (show DescOk _ _ _ from Try.underlying93) no_eqs,
  trivial⟩)
theorem mixOk : Try.prog.follows .mixedOrders = true := by decide +kernel
end Go.Proofs.Ytfldnpjmkllekaa.Ab
