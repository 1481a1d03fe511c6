/-
  kinoralaw21.NetworkBends: the walk.
-/
import Derived.Test.YtblllengohabjaaNetBendsk012
import Derived.Test.YtblllengohabjaaNetBendsk3
import Derived.Test.YtblllengohabjaaNetBendsk4
namespace Go.Proofs.Ytblllengohabjaa
open Go.RowKit

theorem networkBends_walk (A : Option Addr) (n c : Nat) (l : List UInt8) (kind delay num : Int) (w : World) (hin : BytesIn w A n c l) (hcap : n ≤ c) (hn : n ≤ 9223372036854775807) (hnum : -9223372036854775808 ≤ num ∧ num ≤ 9223372036854775807) :
    Calls Try.prog 5 #[.slice A n c, .agg #[.int .i64 kind, .int .i64 delay, .int .i64 num]] w fun e w' => e = .returned (.bool true) ∧ Below w.heap.size w w' := by
  by_cases h : 300 < n ∨ n = 0 ∨ kind < 0 ∨ 4 < kind
  · exact networkBends_no A n c kind delay num w h hn
  · by_cases h3 : kind = 3
    · exact networkBends_k3 A n c l kind delay num w hin (by omega) hcap (by omega) (by omega) hnum
    · by_cases h4 : kind = 4
      · exact networkBends_k4 A n c l kind delay num w hin (by omega) hcap (by omega) (by omega) hnum
      · exact networkBends_k012 A n c l kind delay num w hin (by omega) hcap (by omega) (by omega) hnum
end Go.Proofs.Ytblllengohabjaa
