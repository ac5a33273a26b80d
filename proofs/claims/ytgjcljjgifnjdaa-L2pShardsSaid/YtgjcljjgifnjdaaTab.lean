/- The table of this seat's types. -/
import Derived.Test.YtgjcljjgifnjdaaFm
namespace Go.Proofs.Ytgjcljjgifnjdaa.Ab
set_option linter.unusedVariables false
set_option linter.unusedSimpArgs false
open Go.RowKit

def tabL : List (Nat × TI) := [
  (2, ⟨.int .i64, 1, 8, [.i (.sc (.int .i64 0))], false⟩),
  (3, ⟨.int .i64, 1, 8, [.i (.sc (.int .i64 0))], false⟩),
  (4, ⟨.bool, 1, 1, [.i (.sc (.bool false))], false⟩),
  (5, ⟨.int .u8, 1, 1, [.i (.sc (.int .u8 0))], false⟩),
  (9, ⟨.str, 1, 16, [.i (.sc (.string ByteArray.empty))], false⟩),
  (12, ⟨.int .u64, 1, 8, [.i (.sc (.int .u64 0))], false⟩),
  (21, ⟨.int .i32, 1, 4, [.i (.sc (.int .i32 0))], false⟩),
  (22, ⟨.slice 3, 1, 24, [.nl], false⟩),
  (23, ⟨.slice 5, 1, 24, [.nl], false⟩),
  (26, ⟨.ptr 72, 1, 8, [.i (.sc (.pointer none))], false⟩),
  (28, ⟨.slice 34, 1, 24, [.nl], false⟩),
  (29, ⟨.arr 5 3, 5, 40, [.i (.sc (.int .i64 0)), .i (.sc (.int .i64 0)), .i (.sc (.int .i64 0)), .i (.sc (.int .i64 0)), .i (.sc (.int .i64 0))], false⟩),
  (31, ⟨.struct [(0, 3), (1, 3)], 2, 16, [.i (.sc (.int .i64 0)), .i (.sc (.int .i64 0))], true⟩),
  (32, ⟨.struct [(0, 3), (1, 3)], 2, 16, [.i (.sc (.int .i64 0)), .i (.sc (.int .i64 0))], true⟩),
  (33, ⟨.struct [(0, 3), (1, 3), (2, 3), (3, 3), (4, 32)], 6, 48, [.i (.sc (.int .i64 0)), .i (.sc (.int .i64 0)), .i (.sc (.int .i64 0)), .i (.sc (.int .i64 0)), .i (.sc (.int .i64 0)), .i (.sc (.int .i64 0))], true⟩),
  (34, ⟨.struct [(0, 3), (1, 3), (2, 3), (3, 3), (4, 32)], 6, 48, [.i (.sc (.int .i64 0)), .i (.sc (.int .i64 0)), .i (.sc (.int .i64 0)), .i (.sc (.int .i64 0)), .i (.sc (.int .i64 0)), .i (.sc (.int .i64 0))], true⟩),
  (50, ⟨.slice 28, 1, 24, [.nl], false⟩),
  (51, ⟨.struct [(0, 50)], 1, 24, [.nl], false⟩),
  (52, ⟨.struct [(0, 50)], 1, 24, [.nl], false⟩),
  (53, ⟨.int .i64, 1, 8, [.i (.sc (.int .i64 0))], false⟩),
  (56, ⟨.arr 9 34, 54, 432, [.i (.sc (.int .i64 0)), .i (.sc (.int .i64 0)), .i (.sc (.int .i64 0)), .i (.sc (.int .i64 0)), .i (.sc (.int .i64 0)), .i (.sc (.int .i64 0)), .i (.sc (.int .i64 0)), .i (.sc (.int .i64 0)), .i (.sc (.int .i64 0)), .i (.sc (.int .i64 0)), .i (.sc (.int .i64 0)), .i (.sc (.int .i64 0)), .i (.sc (.int .i64 0)), .i (.sc (.int .i64 0)), .i (.sc (.int .i64 0)), .i (.sc (.int .i64 0)), .i (.sc (.int .i64 0)), .i (.sc (.int .i64 0)), .i (.sc (.int .i64 0)), .i (.sc (.int .i64 0)), .i (.sc (.int .i64 0)), .i (.sc (.int .i64 0)), .i (.sc (.int .i64 0)), .i (.sc (.int .i64 0)), .i (.sc (.int .i64 0)), .i (.sc (.int .i64 0)), .i (.sc (.int .i64 0)), .i (.sc (.int .i64 0)), .i (.sc (.int .i64 0)), .i (.sc (.int .i64 0)), .i (.sc (.int .i64 0)), .i (.sc (.int .i64 0)), .i (.sc (.int .i64 0)), .i (.sc (.int .i64 0)), .i (.sc (.int .i64 0)), .i (.sc (.int .i64 0)), .i (.sc (.int .i64 0)), .i (.sc (.int .i64 0)), .i (.sc (.int .i64 0)), .i (.sc (.int .i64 0)), .i (.sc (.int .i64 0)), .i (.sc (.int .i64 0)), .i (.sc (.int .i64 0)), .i (.sc (.int .i64 0)), .i (.sc (.int .i64 0)), .i (.sc (.int .i64 0)), .i (.sc (.int .i64 0)), .i (.sc (.int .i64 0)), .i (.sc (.int .i64 0)), .i (.sc (.int .i64 0)), .i (.sc (.int .i64 0)), .i (.sc (.int .i64 0)), .i (.sc (.int .i64 0)), .i (.sc (.int .i64 0))], false⟩),
  (71, ⟨.struct [(0, 22), (1, 3)], 2, 32, [.nl, .i (.sc (.int .i64 0))], false⟩),
  (72, ⟨.struct [(0, 22), (1, 3)], 2, 32, [.nl, .i (.sc (.int .i64 0))], false⟩),
  (82, ⟨.struct [(0, 50)], 1, 24, [.nl], false⟩),
  (83, ⟨.struct [(0, 50)], 1, 24, [.nl], false⟩),
  (84, ⟨.struct [(0, 83)], 1, 24, [.nl], false⟩),
  (85, ⟨.struct [(0, 83)], 1, 24, [.nl], false⟩),
  (97, ⟨.int .u64, 1, 8, [.i (.sc (.int .u64 0))], false⟩),
  (100, ⟨.int .i64, 1, 8, [.i (.sc (.int .i64 0))], false⟩),
  (107, ⟨.int .u32, 1, 4, [.i (.sc (.int .u32 0))], false⟩),
  (109, ⟨.int .u64, 1, 8, [.i (.sc (.int .u64 0))], false⟩),
  (110, ⟨.int .u64, 1, 8, [.i (.sc (.int .u64 0))], false⟩)]
def tab : Nat → TI := look tabL
theorem tabOk : TabOk Try.prog tab := tab_ok (
  ⟨good_mk (z := .int .i64 0) (by kernel_rfl) rfl (agg_no rfl rfl) rfl (by simp [Value.cells, Value.oneCell']) (show DescOk _ _ _ from Try.underlying2) no_eqs,
  good_mk (z := .int .i64 0) (by kernel_rfl) rfl (agg_no rfl rfl) rfl (by simp [Value.cells, Value.oneCell']) (show DescOk _ _ _ from Try.underlying3) no_eqs,
  good_mk (z := .bool false) (by kernel_rfl) rfl (agg_no rfl rfl) rfl (by simp [Value.cells, Value.oneCell']) (show DescOk _ _ _ from Try.underlying4) no_eqs,
  good_mk (z := .int .u8 0) (by kernel_rfl) rfl (agg_no rfl rfl) rfl (by simp [Value.cells, Value.oneCell']) (show DescOk _ _ _ from Try.underlying5) no_eqs,
  good_mk (z := .string ByteArray.empty) (by kernel_rfl) rfl (agg_no rfl rfl) rfl (by simp [Value.cells, Value.oneCell']) (show DescOk _ _ _ from Try.underlying9) no_eqs,
  good_mk (z := .int .u64 0) (by kernel_rfl) rfl (agg_no rfl rfl) rfl (by simp [Value.cells, Value.oneCell']) (show DescOk _ _ _ from Try.underlying12) no_eqs,
  good_mk (z := .int .i32 0) (by kernel_rfl) rfl (agg_no rfl rfl) rfl (by simp [Value.cells, Value.oneCell']) (show DescOk _ _ _ from Try.underlying21) no_eqs,
  good_mk (z := .slice none 0 0) (by kernel_rfl) rfl (agg_no rfl rfl) rfl (by simp [Value.cells, Value.oneCell']) (show DescOk _ _ _ from Try.underlying22) no_eqs,
  good_mk (z := .slice none 0 0) (by kernel_rfl) rfl (agg_no rfl rfl) rfl (by simp [Value.cells, Value.oneCell']) (show DescOk _ _ _ from Try.underlying23) no_eqs,
  good_mk (z := .pointer none) (by kernel_rfl) rfl (agg_no rfl rfl) rfl (by simp [Value.cells, Value.oneCell']) (show DescOk _ _ _ from Try.underlying26) no_eqs,
  good_mk (z := .slice none 0 0) (by kernel_rfl) rfl (agg_no rfl rfl) rfl (by simp [Value.cells, Value.oneCell']) (show DescOk _ _ _ from Try.underlying28) no_eqs,
  good_mk (z := .agg #[.int .i64 0, .int .i64 0, .int .i64 0, .int .i64 0, .int .i64 0]) (by kernel_rfl) rfl (agg_yes rfl rfl) rfl (by simp [Value.cells, Value.oneCell']) (show DescOk _ _ _ from Try.underlying29) no_eqs,
  good_mk (z := .agg #[.int .i64 0, .int .i64 0]) (by kernel_rfl) rfl (agg_yes rfl rfl) rfl (by simp [Value.cells, Value.oneCell']) (show DescOk _ _ _ from ⟨_, Try.underlying31, rfl⟩) (fun _ => by decide +kernel),
  good_mk (z := .agg #[.int .i64 0, .int .i64 0]) (by kernel_rfl) rfl (agg_yes rfl rfl) rfl (by simp [Value.cells, Value.oneCell']) (show DescOk _ _ _ from ⟨_, Try.underlying32, rfl⟩) (fun _ => by decide +kernel),
  good_mk (z := .agg #[.int .i64 0, .int .i64 0, .int .i64 0, .int .i64 0, .int .i64 0, .int .i64 0]) (by kernel_rfl) rfl (agg_yes rfl rfl) rfl (by simp [Value.cells, Value.oneCell']) (show DescOk _ _ _ from ⟨_, Try.underlying33, rfl⟩) (fun _ => by decide +kernel),
  good_mk (z := .agg #[.int .i64 0, .int .i64 0, .int .i64 0, .int .i64 0, .int .i64 0, .int .i64 0]) (by kernel_rfl) rfl (agg_yes rfl rfl) rfl (by simp [Value.cells, Value.oneCell']) (show DescOk _ _ _ from ⟨_, Try.underlying34, rfl⟩) (fun _ => by decide +kernel),
  good_mk (z := .slice none 0 0) (by kernel_rfl) rfl (agg_no rfl rfl) rfl (by simp [Value.cells, Value.oneCell']) (show DescOk _ _ _ from Try.underlying50) no_eqs,
  good_mk (z := .agg #[.slice none 0 0]) (by kernel_rfl) rfl (agg_yes rfl rfl) rfl (by simp [Value.cells, Value.oneCell']) (show DescOk _ _ _ from ⟨_, Try.underlying51, rfl⟩) no_eqs,
  good_mk (z := .agg #[.slice none 0 0]) (by kernel_rfl) rfl (agg_yes rfl rfl) rfl (by simp [Value.cells, Value.oneCell']) (show DescOk _ _ _ from ⟨_, Try.underlying52, rfl⟩) no_eqs,
  good_mk (z := .int .i64 0) (by kernel_rfl) rfl (agg_no rfl rfl) rfl (by simp [Value.cells, Value.oneCell']) (show DescOk _ _ _ from Try.underlying53) no_eqs,
  good_mk (z := .agg #[.int .i64 0, .int .i64 0, .int .i64 0, .int .i64 0, .int .i64 0, .int .i64 0, .int .i64 0, .int .i64 0, .int .i64 0, .int .i64 0, .int .i64 0, .int .i64 0, .int .i64 0, .int .i64 0, .int .i64 0, .int .i64 0, .int .i64 0, .int .i64 0, .int .i64 0, .int .i64 0, .int .i64 0, .int .i64 0, .int .i64 0, .int .i64 0, .int .i64 0, .int .i64 0, .int .i64 0, .int .i64 0, .int .i64 0, .int .i64 0, .int .i64 0, .int .i64 0, .int .i64 0, .int .i64 0, .int .i64 0, .int .i64 0, .int .i64 0, .int .i64 0, .int .i64 0, .int .i64 0, .int .i64 0, .int .i64 0, .int .i64 0, .int .i64 0, .int .i64 0, .int .i64 0, .int .i64 0, .int .i64 0, .int .i64 0, .int .i64 0, .int .i64 0, .int .i64 0, .int .i64 0, .int .i64 0]) (by kernel_rfl) rfl (agg_yes rfl rfl) rfl (by simp [Value.cells, Value.oneCell']) (show DescOk _ _ _ from Try.underlying56) no_eqs,
  good_mk (z := .agg #[.slice none 0 0, .int .i64 0]) (by kernel_rfl) rfl (agg_yes rfl rfl) rfl (by simp [Value.cells, Value.oneCell']) (show DescOk _ _ _ from ⟨_, Try.underlying71, rfl⟩) no_eqs,
  good_mk (z := .agg #[.slice none 0 0, .int .i64 0]) (by kernel_rfl) rfl (agg_yes rfl rfl) rfl (by simp [Value.cells, Value.oneCell']) (show DescOk _ _ _ from ⟨_, Try.underlying72, rfl⟩) no_eqs,
  good_mk (z := .agg #[.slice none 0 0]) (by kernel_rfl) rfl (agg_yes rfl rfl) rfl (by simp [Value.cells, Value.oneCell']) (show DescOk _ _ _ from ⟨_, Try.underlying82, rfl⟩) no_eqs,
  good_mk (z := .agg #[.slice none 0 0]) (by kernel_rfl) rfl (agg_yes rfl rfl) rfl (by simp [Value.cells, Value.oneCell']) (show DescOk _ _ _ from ⟨_, Try.underlying83, rfl⟩) no_eqs,
  good_mk (z := .agg #[.slice none 0 0]) (by kernel_rfl) rfl (agg_yes rfl rfl) rfl (by simp [Value.cells, Value.oneCell']) (show DescOk _ _ _ from ⟨_, Try.underlying84, rfl⟩) no_eqs,
  good_mk (z := .agg #[.slice none 0 0]) (by kernel_rfl) rfl (agg_yes rfl rfl) rfl (by simp [Value.cells, Value.oneCell']) (show DescOk _ _ _ from ⟨_, Try.underlying85, rfl⟩) no_eqs,
  good_mk (z := .int .u64 0) (by kernel_rfl) rfl (agg_no rfl rfl) rfl (by simp [Value.cells, Value.oneCell']) (show DescOk _ _ _ from Try.underlying97) no_eqs,
  good_mk (z := .int .i64 0) (by kernel_rfl) rfl (agg_no rfl rfl) rfl (by simp [Value.cells, Value.oneCell']) (show DescOk _ _ _ from Try.underlying100) no_eqs,
  good_mk (z := .int .u32 0) (by kernel_rfl) rfl (agg_no rfl rfl) rfl (by simp [Value.cells, Value.oneCell']) (show DescOk _ _ _ from Try.underlying107) no_eqs,
  good_mk (z := .int .u64 0) (by kernel_rfl) rfl (agg_no rfl rfl) rfl (by simp [Value.cells, Value.oneCell']) (show DescOk _ _ _ from Try.underlying109) no_eqs,
  good_mk (z := .int .u64 0) (by kernel_rfl) rfl (agg_no rfl rfl) rfl (by simp [Value.cells, Value.oneCell']) (show DescOk _ _ _ from Try.underlying110) no_eqs,
  trivial⟩)
/-- The table with marks: 1000000 + t: a make of type t leaves no room; 2000000 + f: a call of f turns the row that is its first argument. -/
def tabX (fl : List Nat) : Nat → TI := markT fl tab
theorem tabXOk (fl : List Nat) : TabOk Try.prog (tabX fl) := mark_ok fl tabOk
theorem mixOk : Try.prog.follows .mixedOrders = true := by decide +kernel
end Go.Proofs.Ytgjcljjgifnjdaa.Ab
