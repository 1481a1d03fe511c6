/-
  The reference's Send, all cases.
-/
import Derived.Test.YtblllengohabjaaNetRefSone
import Derived.Test.YtblllengohabjaaNetRefStwo
import Derived.Test.YtblllengohabjaaNetRefSlost
namespace Go.Proofs.Ytblllengohabjaa
open Go.RowKit

theorem rsend_any (w : World) (B g : Nat) (t side : Int) (L : List RP) (h : RNet w B g t L) (kind delay num : Int) (A : Option Addr) (n c : Nat) (l : List UInt8) (har : ArgBytes w B A n c l) (hn : n ≤ 1048576) (hnum : -9223372036854775808 ≤ num ∧ num ≤ 9223372036854775807)
    (hf : fateOk side kind delay = true) :
    Calls Try.prog 10 #[.pointer (some ⟨g, 0, none⟩), .int .i64 side, .slice A n c, .agg #[.int .i64 kind, .int .i64 delay, .int .i64 num]] w (RSendPost w B g t L (rnews t side kind delay num l)) := by
  unfold rnews
  by_cases hk1 : kind = 1
  · rw [if_pos hk1]
    exact rsend_lost w B g t side L h kind delay num A n c hf hk1
  · rw [if_neg hk1]
    by_cases hk2 : kind = 2
    · rw [if_pos hk2]
      exact rsend_two w B g t side L h kind delay num A n c l har hn hnum hf hk2
    · rw [if_neg hk2]
      exact rsend_one w B g t side L h kind delay num A n c l har hn hnum hf hk1 hk2
end Go.Proofs.Ytblllengohabjaa
