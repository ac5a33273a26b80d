/- Summaries: the plain law; what the fold's function does. -/
import Derived.Test.YtfldnpjmkllekaaQi
import Derived.Test.YtfldnpjmkllekaaFt
namespace Go.Proofs.Ytfldnpjmkllekaa.Ab
set_option linter.unusedVariables false
set_option linter.unusedSimpArgs false
open Go.RowKit

def sfold : List ByteArray → List UInt8 → Int → Int → Int × List UInt8 × Int × Int
  | [], B, lo, hi => (0, B, lo, hi)
  | s :: ss, B, lo, hi => if (rdec s).2 ≠ 0 then ((rdec s).2, B, lo, hi) else if (rdec s).1.k ≠ 1 ∧ (rdec s).1.k ≠ 2 then (3, B, lo, hi)
    else sfold ss (B ++ (sL s).take 36) (if (rdec s).1.v < lo then (rdec s).1.v else lo) (if (rdec s).1.v > hi then (rdec s).1.v else hi)
def smake (ss : List ByteArray) : Rec × Int :=
  if ss.length < 1 ∨ 64 < ss.length then (r0, 19)
  else if (sfold ss [] 1099511627776 0).1 ≠ 0 then (r0, (sfold ss [] 1099511627776 0).1)
  else (⟨3, ss.length, (sfold ss [] 1099511627776 0).2.2.2, 0, (sput (sfold ss [] 1099511627776 0).2.2.1 6).1 ++ (sput (crcN (sfold ss [] 1099511627776 0).2.1) 4).1⟩, 0)
theorem crc_snoc (B x : List UInt8) : Crc.add crcP crcO (crcN B) (x.map UInt8.toNat) = crcN (B ++ x) := by unfold crcN; rw [List.map_append, Crc.add_append]
theorem addF (B : List UInt8) (s : ByteArray) (hs : s.size ≤ 1000000) : Fun Try.prog 55 [u32V (crcN B), strV s] [] (.v (u32V (crcN (B ++ sL s)))) := by
  rw [← crc_snoc]
  exact fun_of_calls (args := [.int .u32 (crcN B), .string s]) (v := .int .u32 (Crc.add crcP crcO (crcN B) (crcB s) : Nat)) ⟨_, Try.func55, rfl, by rfl⟩ rfl (fun w => add_any (crcN B) s w (crcN_lt B) (by unfold maxLen; omega))
def u32c (n : Nat) : List AV1 := [.i (.sc (.int .u32 n))]
def i64c (n : Int) : List AV1 := [.i (.sc (.int .i64 n))]
set_option maxRecDepth 100000 in
set_option maxHeartbeats 8000000 in
theorem sumClo (B : List UInt8) (lo hi : Int) (s : ByteArray) (hs : s.size = 40) (k b v m : Int) (p : ByteArray) :
    FunV Try.prog 54 [u32c (crcN B), i64c lo, i64c hi] [strV s, recV k b v m p, .c (.ptr 0 0 0), .c (.ptr 1 0 0), .c (.ptr 2 0 0)]
      [u32c (crcN (B ++ (sL s).take 36)), i64c (if v < lo then v else lo), i64c (if v > hi then v else hi)] (.tup []) := by
  have ha := addF B (s.extract (0 : Int).toNat (36 : Int).toNat) (by rw [ex36_size hs]; decide)
  rw [ex36 hs] at ha
  refine funV_of_vc tabOk mixOk Try.func54 rfl (by rfl) (rs := []) rfl rfl rfl rfl rfl rfl 23 ?_; rw [Try.ntmps54]
  (conv => whnf); repeat (first | (refine And.intro rfl ?_; conv => whnf) | (refine And.intro (fun _ => ?_) (fun h => Bool.noConfusion h); conv => whnf) | (refine And.intro (fun h => Bool.noConfusion h) (fun _ => ?_); conv => whnf))
  refine ⟨by decide, by decide, by omega, ?_⟩
  (conv => whnf); repeat (first | (refine And.intro rfl ?_; conv => whnf) | (refine And.intro (fun _ => ?_) (fun h => Bool.noConfusion h); conv => whnf) | (refine And.intro (fun h => Bool.noConfusion h) (fun _ => ?_); conv => whnf))
  refine ⟨_, _, ha, ?_⟩
  (conv => whnf); repeat (first | (refine And.intro rfl ?_; conv => whnf) | (refine And.intro (fun _ => ?_) (fun h => Bool.noConfusion h); conv => whnf) | (refine And.intro (fun h => Bool.noConfusion h) (fun _ => ?_); conv => whnf))
  exact ⟨⟨rfl, rfl, rfl, trivial⟩, ⟨rfl, rfl⟩⟩
end Go.Proofs.Ytfldnpjmkllekaa.Ab
