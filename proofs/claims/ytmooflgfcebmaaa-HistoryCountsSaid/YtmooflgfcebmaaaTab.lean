/- The table of this seat's types. -/
import Derived.Test.YtmooflgfcebmaaaFm
namespace Go.Proofs.Ytmooflgfcebmaaa.Ab
set_option linter.unusedVariables false
set_option linter.unusedSimpArgs false
open Go.RowKit

def tabL : List (Nat × TI) := [
  (2, ⟨.int .i64, 1, 8, [.i (.sc (.int .i64 0))], false⟩),
  (3, ⟨.int .i64, 1, 8, [.i (.sc (.int .i64 0))], false⟩),
  (4, ⟨.bool, 1, 1, [.i (.sc (.bool false))], false⟩),
  (5, ⟨.int .u8, 1, 1, [.i (.sc (.int .u8 0))], false⟩),
  (9, ⟨.str, 1, 16, [.i (.sc (.string ByteArray.empty))], false⟩),
  (12, ⟨.int .u64, 1, 8, [.i (.sc (.int .u64 0))], false⟩),
  (21, ⟨.int .i32, 1, 4, [.i (.sc (.int .i32 0))], false⟩),
  (22, ⟨.slice 3, 1, 24, [.nl], false⟩),
  (25, ⟨.slice 38, 1, 24, [.nl], false⟩),
  (28, ⟨.int .i64, 1, 8, [.i (.sc (.int .i64 0))], false⟩),
  (33, ⟨.struct [(0, 3), (1, 3), (2, 9)], 3, 32, [.i (.sc (.int .i64 0)), .i (.sc (.int .i64 0)), .i (.sc (.string ByteArray.empty))], true⟩),
  (34, ⟨.struct [(0, 3), (1, 3), (2, 9)], 3, 32, [.i (.sc (.int .i64 0)), .i (.sc (.int .i64 0)), .i (.sc (.string ByteArray.empty))], true⟩),
  (35, ⟨.struct [(0, 28), (1, 9)], 2, 24, [.i (.sc (.int .i64 0)), .i (.sc (.string ByteArray.empty))], true⟩),
  (36, ⟨.struct [(0, 28), (1, 9)], 2, 24, [.i (.sc (.int .i64 0)), .i (.sc (.string ByteArray.empty))], true⟩),
  (37, ⟨.struct [(0, 4), (1, 3), (2, 3), (3, 34), (6, 36)], 8, 80, [.i (.sc (.bool false)), .i (.sc (.int .i64 0)), .i (.sc (.int .i64 0)), .i (.sc (.int .i64 0)), .i (.sc (.int .i64 0)), .i (.sc (.string ByteArray.empty)), .i (.sc (.int .i64 0)), .i (.sc (.string ByteArray.empty))], true⟩),
  (38, ⟨.struct [(0, 4), (1, 3), (2, 3), (3, 34), (6, 36)], 8, 80, [.i (.sc (.bool false)), .i (.sc (.int .i64 0)), .i (.sc (.int .i64 0)), .i (.sc (.int .i64 0)), .i (.sc (.int .i64 0)), .i (.sc (.string ByteArray.empty)), .i (.sc (.int .i64 0)), .i (.sc (.string ByteArray.empty))], true⟩),
  (43, ⟨.struct [(0, 3), (1, 3), (2, 3), (3, 3), (4, 3), (5, 3)], 6, 48, [.i (.sc (.int .i64 0)), .i (.sc (.int .i64 0)), .i (.sc (.int .i64 0)), .i (.sc (.int .i64 0)), .i (.sc (.int .i64 0)), .i (.sc (.int .i64 0))], true⟩),
  (44, ⟨.struct [(0, 3), (1, 3), (2, 3), (3, 3), (4, 3), (5, 3)], 6, 48, [.i (.sc (.int .i64 0)), .i (.sc (.int .i64 0)), .i (.sc (.int .i64 0)), .i (.sc (.int .i64 0)), .i (.sc (.int .i64 0)), .i (.sc (.int .i64 0))], true⟩),
  (50, ⟨.slice 9, 1, 24, [.nl], false⟩),
  (51, ⟨.slice 34, 1, 24, [.nl], false⟩),
  (55, ⟨.slice 36, 1, 24, [.nl], false⟩),
  (61, ⟨.ptr 84, 1, 8, [.i (.sc (.pointer none))], false⟩),
  (64, ⟨.slice 5, 1, 24, [.nl], false⟩),
  (69, ⟨.map 3 3, 1, 8, [.i (.sc (.map none))], false⟩),
  (71, ⟨.map 3 38, 1, 8, [.i (.sc (.map none))], false⟩),
  (72, ⟨.map 3 4, 1, 8, [.i (.sc (.map none))], false⟩),
  (79, ⟨.arr 5 9, 5, 80, [.i (.sc (.string ByteArray.empty)), .i (.sc (.string ByteArray.empty)), .i (.sc (.string ByteArray.empty)), .i (.sc (.string ByteArray.empty)), .i (.sc (.string ByteArray.empty))], false⟩),
  (83, ⟨.struct [(0, 22), (1, 3)], 2, 32, [.nl, .i (.sc (.int .i64 0))], false⟩),
  (84, ⟨.struct [(0, 22), (1, 3)], 2, 32, [.nl, .i (.sc (.int .i64 0))], false⟩),
  (87, ⟨.int .u64, 1, 8, [.i (.sc (.int .u64 0))], false⟩),
  (92, ⟨.struct [(0, 91), (1, 64)], 2, 32, [.i (.sc (.pointer none)), .nl], false⟩),
  (93, ⟨.struct [(0, 91), (1, 64)], 2, 32, [.i (.sc (.pointer none)), .nl], false⟩),
  (99, ⟨.int .u32, 1, 4, [.i (.sc (.int .u32 0))], false⟩),
  (102, ⟨.int .u64, 1, 8, [.i (.sc (.int .u64 0))], false⟩)]
def tab : Nat → TI := look tabL
theorem tabOk : TabOk Try.prog tab := tab_ok (
  ⟨good_mk (z := .int .i64 0) (by kernel_rfl) rfl (agg_no rfl rfl) rfl (by simp [Value.cells, Value.oneCell']) (show DescOk _ _ _ from Try.underlying2) no_eqs,
  good_mk (z := .int .i64 0) (by kernel_rfl) rfl (agg_no rfl rfl) rfl (by simp [Value.cells, Value.oneCell']) (show DescOk _ _ _ from Try.underlying3) no_eqs,
  good_mk (z := .bool false) (by kernel_rfl) rfl (agg_no rfl rfl) rfl (by simp [Value.cells, Value.oneCell']) (show DescOk _ _ _ from Try.underlying4) no_eqs,
  good_mk (z := .int .u8 0) (by kernel_rfl) rfl (agg_no rfl rfl) rfl (by simp [Value.cells, Value.oneCell']) (show DescOk _ _ _ from Try.underlying5) no_eqs,
  good_mk (z := .string ByteArray.empty) (by kernel_rfl) rfl (agg_no rfl rfl) rfl (by simp [Value.cells, Value.oneCell']) (show DescOk _ _ _ from Try.underlying9) no_eqs,
  good_mk (z := .int .u64 0) (by kernel_rfl) rfl (agg_no rfl rfl) rfl (by simp [Value.cells, Value.oneCell']) (show DescOk _ _ _ from Try.underlying12) no_eqs,
  good_mk (z := .int .i32 0) (by kernel_rfl) rfl (agg_no rfl rfl) rfl (by simp [Value.cells, Value.oneCell']) (show DescOk _ _ _ from Try.underlying21) no_eqs,
  good_mk (z := .slice none 0 0) (by kernel_rfl) rfl (agg_no rfl rfl) rfl (by simp [Value.cells, Value.oneCell']) (show DescOk _ _ _ from Try.underlying22) no_eqs,
  good_mk (z := .slice none 0 0) (by kernel_rfl) rfl (agg_no rfl rfl) rfl (by simp [Value.cells, Value.oneCell']) (show DescOk _ _ _ from Try.underlying25) no_eqs,
  good_mk (z := .int .i64 0) (by kernel_rfl) rfl (agg_no rfl rfl) rfl (by simp [Value.cells, Value.oneCell']) (show DescOk _ _ _ from Try.underlying28) no_eqs,
  good_mk (z := .agg #[.int .i64 0, .int .i64 0, .string ByteArray.empty]) (by kernel_rfl) rfl (agg_yes rfl rfl) rfl (by simp [Value.cells, Value.oneCell']) (show DescOk _ _ _ from ⟨_, Try.underlying33, rfl⟩) (fun _ => by decide +kernel),
  good_mk (z := .agg #[.int .i64 0, .int .i64 0, .string ByteArray.empty]) (by kernel_rfl) rfl (agg_yes rfl rfl) rfl (by simp [Value.cells, Value.oneCell']) (show DescOk _ _ _ from ⟨_, Try.underlying34, rfl⟩) (fun _ => by decide +kernel),
  good_mk (z := .agg #[.int .i64 0, .string ByteArray.empty]) (by kernel_rfl) rfl (agg_yes rfl rfl) rfl (by simp [Value.cells, Value.oneCell']) (show DescOk _ _ _ from ⟨_, Try.underlying35, rfl⟩) (fun _ => by decide +kernel),
  good_mk (z := .agg #[.int .i64 0, .string ByteArray.empty]) (by kernel_rfl) rfl (agg_yes rfl rfl) rfl (by simp [Value.cells, Value.oneCell']) (show DescOk _ _ _ from ⟨_, Try.underlying36, rfl⟩) (fun _ => by decide +kernel),
  good_mk (z := .agg #[.bool false, .int .i64 0, .int .i64 0, .int .i64 0, .int .i64 0, .string ByteArray.empty, .int .i64 0, .string ByteArray.empty]) (by kernel_rfl) rfl (agg_yes rfl rfl) rfl (by simp [Value.cells, Value.oneCell']) (show DescOk _ _ _ from ⟨_, Try.underlying37, rfl⟩) (fun _ => by decide +kernel),
  good_mk (z := .agg #[.bool false, .int .i64 0, .int .i64 0, .int .i64 0, .int .i64 0, .string ByteArray.empty, .int .i64 0, .string ByteArray.empty]) (by kernel_rfl) rfl (agg_yes rfl rfl) rfl (by simp [Value.cells, Value.oneCell']) (show DescOk _ _ _ from ⟨_, Try.underlying38, rfl⟩) (fun _ => by decide +kernel),
  good_mk (z := .agg #[.int .i64 0, .int .i64 0, .int .i64 0, .int .i64 0, .int .i64 0, .int .i64 0]) (by kernel_rfl) rfl (agg_yes rfl rfl) rfl (by simp [Value.cells, Value.oneCell']) (show DescOk _ _ _ from ⟨_, Try.underlying43, rfl⟩) (fun _ => by decide +kernel),
  good_mk (z := .agg #[.int .i64 0, .int .i64 0, .int .i64 0, .int .i64 0, .int .i64 0, .int .i64 0]) (by kernel_rfl) rfl (agg_yes rfl rfl) rfl (by simp [Value.cells, Value.oneCell']) (show DescOk _ _ _ from ⟨_, Try.underlying44, rfl⟩) (fun _ => by decide +kernel),
  good_mk (z := .slice none 0 0) (by kernel_rfl) rfl (agg_no rfl rfl) rfl (by simp [Value.cells, Value.oneCell']) (show DescOk _ _ _ from Try.underlying50) no_eqs,
  good_mk (z := .slice none 0 0) (by kernel_rfl) rfl (agg_no rfl rfl) rfl (by simp [Value.cells, Value.oneCell']) (show DescOk _ _ _ from Try.underlying51) no_eqs,
  good_mk (z := .slice none 0 0) (by kernel_rfl) rfl (agg_no rfl rfl) rfl (by simp [Value.cells, Value.oneCell']) (show DescOk _ _ _ from Try.underlying55) no_eqs,
  good_mk (z := .pointer none) (by kernel_rfl) rfl (agg_no rfl rfl) rfl (by simp [Value.cells, Value.oneCell']) (show DescOk _ _ _ from Try.underlying61) no_eqs,
  good_mk (z := .slice none 0 0) (by kernel_rfl) rfl (agg_no rfl rfl) rfl (by simp [Value.cells, Value.oneCell']) (show DescOk _ _ _ from Try.underlying64) no_eqs,
  good_mk (z := .map none) (by kernel_rfl) rfl (agg_no rfl rfl) rfl (by simp [Value.cells, Value.oneCell']) (show DescOk _ _ _ from Try.underlying69) no_eqs,
  good_mk (z := .map none) (by kernel_rfl) rfl (agg_no rfl rfl) rfl (by simp [Value.cells, Value.oneCell']) (show DescOk _ _ _ from Try.underlying71) no_eqs,
  good_mk (z := .map none) (by kernel_rfl) rfl (agg_no rfl rfl) rfl (by simp [Value.cells, Value.oneCell']) (show DescOk _ _ _ from Try.underlying72) no_eqs,
  good_mk (z := .agg #[.string ByteArray.empty, .string ByteArray.empty, .string ByteArray.empty, .string ByteArray.empty, .string ByteArray.empty]) (by kernel_rfl) rfl (agg_yes rfl rfl) rfl (by simp [Value.cells, Value.oneCell']) (show DescOk _ _ _ from Try.underlying79) no_eqs,
  good_mk (z := .agg #[.slice none 0 0, .int .i64 0]) (by kernel_rfl) rfl (agg_yes rfl rfl) rfl (by simp [Value.cells, Value.oneCell']) (show DescOk _ _ _ from ⟨_, Try.underlying83, rfl⟩) no_eqs,
  good_mk (z := .agg #[.slice none 0 0, .int .i64 0]) (by kernel_rfl) rfl (agg_yes rfl rfl) rfl (by simp [Value.cells, Value.oneCell']) (show DescOk _ _ _ from ⟨_, Try.underlying84, rfl⟩) no_eqs,
  good_mk (z := .int .u64 0) (by kernel_rfl) rfl (agg_no rfl rfl) rfl (by simp [Value.cells, Value.oneCell']) (show DescOk _ _ _ from Try.underlying87) no_eqs,
  good_mk (z := .agg #[.pointer none, .slice none 0 0]) (by kernel_rfl) rfl (agg_yes rfl rfl) rfl (by simp [Value.cells, Value.oneCell']) (show DescOk _ _ _ from ⟨_, Try.underlying92, rfl⟩) no_eqs,
  good_mk (z := .agg #[.pointer none, .slice none 0 0]) (by kernel_rfl) rfl (agg_yes rfl rfl) rfl (by simp [Value.cells, Value.oneCell']) (show DescOk _ _ _ from ⟨_, Try.underlying93, rfl⟩) no_eqs,
  good_mk (z := .int .u32 0) (by kernel_rfl) rfl (agg_no rfl rfl) rfl (by simp [Value.cells, Value.oneCell']) (show DescOk _ _ _ from Try.underlying99) no_eqs,
  good_mk (z := .int .u64 0) (by kernel_rfl) rfl (agg_no rfl rfl) rfl (by simp [Value.cells, Value.oneCell']) (show DescOk _ _ _ from Try.underlying102) no_eqs,
  trivial⟩)
/-- The table with marks: 1000000 + t: a make of type t leaves no room; 2000000 + f: a call of f turns the row that is its first argument. -/
def tabX (fl : List Nat) : Nat → TI := markT fl tab
theorem tabXOk (fl : List Nat) : TabOk Try.prog (tabX fl) := mark_ok fl tabOk
theorem mixOk : Try.prog.follows .mixedOrders = true := by decide +kernel
end Go.Proofs.Ytmooflgfcebmaaa.Ab
