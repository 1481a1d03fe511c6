/-
  network.Network.Send, all cases.
-/
import Derived.Test.YtblllengohabjaaNetSendone0
import Derived.Test.YtblllengohabjaaNetSendone1
import Derived.Test.YtblllengohabjaaNetSendtwo0
import Derived.Test.YtblllengohabjaaNetSendtwo1
namespace Go.Proofs.Ytblllengohabjaa
open Go.RowKit

theorem sendNews_length (t s kind delay num : Int) (l : List UInt8) : (sendNews t s kind delay num l).length = if kind = 1 then 0 else if kind = 2 then 2 else 1 := by
  unfold sendNews
  split
  · rfl
  · split <;> rfl

theorem netSend (w : World) (B g sd : Nat) (t s : Int) (P0 P1 : List Pk) (h : NetIs w B g t s P0 P1) (kind delay num : Int) (A : Option Addr) (n c : Nat) (l : List UInt8) (har : ArgBytes w B A n c l) (hn : n ≤ 1048576) (hnum : -9223372036854775808 ≤ num ∧ num ≤ 9223372036854775807)
    (hsd : sd = 0 ∨ sd = 1) (hf : fateOk sd kind delay = true) (hroom : P0.length + P1.length + (sendNews t s kind delay num l).length ≤ 200) (hst : s < 1099511627775) :
    Calls Try.prog 9 #[.pointer (some ⟨g, 0, none⟩), .int .i64 sd, .slice A n c, .agg #[.int .i64 kind, .int .i64 delay, .int .i64 num]] w (SendPost w B g sd t s P0 P1 (sendNews t s kind delay num l)) := by
  rw [sendNews_length] at hroom
  by_cases hk1 : kind = 1
  · subst hk1
    refine (send_lost w B g sd t s P0 P1 h delay num A n c hsd hf).mono ?_
    rintro e w' ⟨he, hm⟩
    refine ⟨he, [], rfl, ?_, .of_quiet hm, fun p hp => by cases hp⟩
    have e0 : put0 sd P0 (sel sd P0 P1 ++ []) = P0 := by rw [List.append_nil]; rcases hsd with rfl | rfl <;> rfl
    have e1 : put1 sd P1 (sel sd P0 P1 ++ []) = P1 := by rw [List.append_nil]; rcases hsd with rfl | rfl <;> rfl
    rw [e0, e1]
    have := h.quiet hm
    simpa [sendNews] using this
  · rw [if_neg hk1] at hroom
    by_cases hk2 : kind = 2
    · rw [if_pos hk2] at hroom
      rw [show sendNews t s kind delay num l = [(t + delay, s, bentL l kind num), (t + 2 * delay, s + 1, bentL l kind num)] by unfold sendNews; rw [if_neg hk1, if_pos hk2]]
      rcases hsd with rfl | rfl
      · exact send_two0 w B g t s P0 P1 h kind delay num A n c l har hn hnum hf hroom hk2 hst
      · exact send_two1 w B g t s P0 P1 h kind delay num A n c l har hn hnum hf hroom hk2 hst
    · rw [if_neg hk2] at hroom
      rw [show sendNews t s kind delay num l = [(t + delay, s, bentL l kind num)] by unfold sendNews; rw [if_neg hk1, if_neg hk2]]
      rcases hsd with rfl | rfl
      · exact send_one0 w B g t s P0 P1 h kind delay num A n c l har hn hnum hf hroom hk1 hk2 (by omega)
      · exact send_one1 w B g t s P0 P1 h kind delay num A n c l har hn hnum hf hroom hk1 hk2 (by omega)
end Go.Proofs.Ytblllengohabjaa
