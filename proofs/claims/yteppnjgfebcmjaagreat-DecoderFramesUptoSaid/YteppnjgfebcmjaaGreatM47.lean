/-
  The reference's headers: ParseHeader.
-/
import Derived.Test.YteppnjgfebcmjaaGreatM46
import Derived.Test.YteppnjgfebcmjaaGreatM16
import Derived.Test.YteppnjgfebcmjaaGreatM17
namespace Go.Proofs.YteppnjgfebcmjaaGreat
open Go.RowKit

def noPre (l : List UInt8) (k : Nat) : Prop := ∀ n q : Nat, n * 32 + q < k → q ≤ 31 → ¬ Pre l (hdrB n q)
theorem noPre_succ {l : List UInt8} {n q : Nat} (h : noPre l (n * 32 + q)) (hq : q ≤ 31) (hp : ¬ Pre l (hdrB n q)) : noPre l (n * 32 + (q + 1)) := fun n' q' h1 h2 => by
  by_cases e : n' * 32 + q' < n * 32 + q
  · exact h n' q' e h2
  · obtain rfl : n' = n := by omega
    obtain rfl : q' = q := by omega
    exact hp
theorem hdr_none {l : List UInt8} {W H G : Int} {g : Nat} (hg : (g : Int) = G) (h : noPre l (g * 32)) : hdrParse l W H G = none := by
  cases e : hdrParse l W H G with
  | none => rfl
  | some a =>
    obtain ⟨⟨K, N, Q⟩, a4⟩ := a
    obtain ⟨_, _, n, q, _, _, h1, h2, h3⟩ := hdr_is e
    exact absurd h3 (h n q (by omega) h2)
theorem hdrB_len (N Q : Nat) : 1 ≤ (hdrB N Q).length := by
  unfold hdrB
  rw [packL_len]
  unfold hdrBits
  simp [digitsL_length]
  omega
theorem BytesIn.takeM {w : World} {b off n c : Nat} {l : List UInt8} (h : BytesIn w (some ⟨b, off, none⟩) n c l) {m : Nat} (hm : m ≤ n) : Src w 1 (some ⟨b, off, none⟩) m (u8s (l.take m)) := by
  have := h.part (lo := 0) (m := m) (by omega)
  simpa using this
theorem BytesIn.dropM {w : World} {b off n c : Nat} {l : List UInt8} (h : BytesIn w (some ⟨b, off, none⟩) n c l) {m : Nat} (hm : m ≤ n) (hnc : n ≤ c) : BytesIn w (if c = m then some ⟨b, off, none⟩ else some ⟨b, off + m, none⟩) (n - m) (c - m) (l.drop m) := by
  have h2 := h.part (lo := m) (m := n - m) (by omega)
  have hl := h.1
  have e : (l.drop m).take (n - m) = l.drop m := List.take_of_length_le (by simp; omega)
  rw [e] at h2
  by_cases hc : c = m
  · rw [if_pos hc]
    have hn : n - m = 0 := by omega
    rw [hn]
    have hd : l.drop m = [] := List.drop_eq_nil_of_le (by omega)
    rw [hd]
    exact ⟨rfl, (fun h => by cases h), ⟨by simp [u8s], (fun h => by cases h), fun ad e j u hu => by simp [u8s] at hu⟩, fun h => absurd h (by omega)⟩
  · rw [if_neg hc]
    exact ⟨by simp; omega, (fun h => by cases h), h2, fun h0 ad e => by injection e with e; subst e; exact h.2.2.2 (by omega) ⟨b, off, none⟩ rfl⟩
/-- No header found yet. -/
def PH1 (w : World) (res sq : Nat) (W H G : Int) (g : Nat) (l : List UInt8) (v8 : Value) (wr : World) : Prop :=
  ∃ n : Nat, n ≤ g ∧ v8 = .int .i64 (n : Int) ∧ noPre l (n * 32) ∧ Sat (fun _ => False) w wr [⟨res, 62, #[.bool false, .int .i64 0, .int .i64 0]⟩, ⟨sq, 43, #[.int .i64 W, .int .i64 H, .int .i64 G]⟩] []
def PH2 (w : World) (res sq : Nat) (W H G : Int) (n : Nat) (l : List UInt8) (v9 : Value) (wr : World) : Prop :=
  ∃ q : Nat, q ≤ 32 ∧ v9 = .int .i64 (q : Int) ∧ noPre l (n * 32 + q) ∧ Sat (fun _ => False) w wr [⟨res, 62, #[.bool false, .int .i64 0, .int .i64 0]⟩, ⟨sq, 43, #[.int .i64 W, .int .i64 H, .int .i64 G]⟩] []

set_option maxRecDepth 100000 in
set_option maxHeartbeats 4000000 in
theorem fParseHdr (w : World) (A : Option Addr) (m0 c : Nat) (l : List UInt8) (W H G : Int) (hr : seqRight W H G = true) (hin : BytesIn w A m0 c l) (hnc : m0 ≤ c) (hm0 : m0 ≤ 1048576) :
    Calls Tryz.prog 29 #[.slice A m0 c, .agg #[.int .i64 W, .int .i64 H, .int .i64 G]] w (HdrPost w l W H G) := by
  obtain ⟨⟨a1, a2, a3⟩, ⟨a4, a5, a6⟩, a7, a8⟩ := right_bd hr
  obtain ⟨g, rfl⟩ := Int.eq_ofNat_of_zero_le (show 0 ≤ G by omega)
  have h0 := ((Sat.nil (fun _ => False) w).alloc 43 #[.int .i64 W, .int .i64 H, .int .i64 (g : Int)] rfl).alloc (g := w.heap.size + 1) 62 #[.bool false, .int .i64 0, .int .i64 0] (by simp)
  have hl0 : l.length = m0 := hin.1
  have H0 := Lib.hid (And.intro h0 (And.intro hr (And.intro hin hl0)))
  clear h0 hr hin hl0
  go_enter Tryz.func29, Tryz.ntmps29
  go_wp2_with fail
  refine (refRight _ W H (g : Int) ⟨by omega, by omega⟩ ⟨by omega, by omega⟩ ⟨by omega, by omega⟩).mono ?_
  rintro e w1 ⟨rfl, hm1⟩
  rw [H0.out.2.1]
  have H1 := Lib.hid (H0.out.1.quiet hm1)
  clear hm1 a3 a6
  go_wp2_with fail
  go_loopw [8] (PH1 w (w.heap.size + 1) w.heap.size W H (g : Int) g l) (fun s _ => g - (intOf s).toNat)
  case atStart => exact ⟨0, by omega, rfl, fun n q h _ => by omega, H1.out⟩
  case round =>
    clear H1
    obtain ⟨n, hn, rfl, hno, HS⟩ := hrel
    obtain ⟨pc, pf⟩ := (HS.own_ 1 rfl).both
    obtain ⟨rc, rf⟩ := (HS.own_ 0 rfl).both
    have rl := (HS.own_ 0 rfl).lt
    have HK := Lib.hid (And.intro hno HS)
    clear hno HS
    by_cases hlt : n < g
    · have d1 : decide ((n : Int) < (g : Int)) = true := decide_eq_true (by omega)
      have d1' : decide (n < g) = true := decide_eq_true (by omega)
      go_wp2_with fail
      go_loopw [9] (PH2 w (w.heap.size + 1) w.heap.size W H (g : Int) n l) (fun s _ => 32 - (intOf s).toNat)
      case atStart => exact ⟨0, by omega, rfl, HK.out.1, HK.out.2⟩
      case round =>
        clear HK pc pf rc rf rl
        rename World => w5
        obtain ⟨q, hq, rfl, hno, HS⟩ := hrel
        by_cases hlq : q ≤ 31
        · have d2 : decide ((q : Int) ≤ 31) = true := decide_eq_true (by omega)
          have HS2 := HS.alloc (g := w5.heap.size) 62 #[.bool ((n : Int) == 0), .int .i64 (n : Int), .int .i64 (q : Int)] rfl
          obtain ⟨pc, pf⟩ := (HS2.own_ 2 rfl).both
          have HK := Lib.hid (And.intro hno HS2)
          clear hno HS HS2
          go_wp2_with fail
          have hK : ((n : Int) == 0) = decide (n = 0) := by
            by_cases e : n = 0
            · subst e; rfl
            · rw [decide_eq_false e, beq_eq_false_iff_ne]; omega
          have HKd := Lib.hid hK
          refine (fHeader _ W H (g : Int) H0.out.2.1 ((n : Int) == 0) n q hK (by omega) hlq).mono ?_
          clear hK
          rintro e w6 ⟨v6, rfl, hb6, hm6⟩
          have HS6 := HK.out.2.quiet hm6
          obtain ⟨A6, c6, hv6⟩ := own_shape hb6
          have hml := hdrB_len n q
          obtain ⟨x, hx⟩ : ∃ x, x = hdrB n q := ⟨_, rfl⟩
          obtain ⟨m, hm⟩ : ∃ m, m = x.length := ⟨_, rfl⟩
          rw [← hx] at hv6 hml hb6
          rw [← hm] at hv6 hml
          subst hv6
          have hin6 := (H0.out.2.2.1.quiet HS6.mod).quiet (w' := w6.drew) (Mod.refl _ _).drew
          have k2 := str_bytes (hb6.quiet (w' := w6.drew) (Mod.refl _ _).drew)
          have HK6 := Lib.hid (And.intro HK.out.1 (And.intro HS6 (And.intro hx hm)))
          clear hm6 HK pc pf hb6 HS6
          by_cases hle : m ≤ m0
          · have d3 : decide ((m : Int) ≤ (m0 : Int)) = true := decide_eq_true (by omega)
            obtain ⟨ab, ao, hA, hab, hac⟩ := hin6.place (by omega)
            subst hA
            have k1 := str_src w6.drew (some ⟨ab, ao, none⟩) m c (l.take m) (by have := H0.out.2.2.2; simp; omega) (hin6.takeM hle)
            have i1 : (0 : Int) ≤ (m : Int) := by omega
            have i2 : (m : Int) ≤ (c : Int) := by omega
            clear hac hab
            have HI6 := Lib.hid hin6
            clear hin6
            by_cases hEq : l.take m = x
            · rw [hEq] at k1
              clear hx hm
              generalize strOf x = sx at *
              go_upto_region 10 with (fail)
              refine wp_region_planS [] [] (0 :: 1 :: 2 :: 3 :: 4 :: 5 :: 6 :: 7 :: 8 :: 9 :: 10 :: 11 :: 12 :: 13 :: 14 :: []) (fun _ => True) (by kernel_rfl) (by kernel_rfl) (fun _ _ _ d _ h => by cases d <;> exact h) trivial ?_
              iterate 15 (refine planS_still rfl rfl (fun K hK => ?_); go_simp; refine hK _ ?_; clear hK K)
              refine planS_done ?_
              have i3 : (m : Int) ≤ (m0 : Int) := by omega
              have hdr := hdr_of (l := l) (W := W) (H := H) H0.out.2.1 (show (n : Int) < (g : Int) by omega) (by omega) hlq ⟨by rw [← HK6.out.2.2.1, ← HK6.out.2.2.2, H0.out.2.2.2]; exact hle, by rw [← HK6.out.2.2.1, ← HK6.out.2.2.2]; exact hEq⟩
              rw [← HK6.out.2.2.1, ← HK6.out.2.2.2, ← HKd.out] at hdr
              have HF := Lib.hid hdr
              clear hdr hEq
              go_upto_region 11 with (fail)
              have hS0 := HK6.out.2.1.drew.drew.own_ 0 rfl
              dsimp only at hS0
              have HS9 := HK6.out.2.1.drew.drew.alloc 5 #[] rfl
              have ho : Bytes (w6.drew.drew.alloc (.cells #[] 5)) w.heap.size (.slice (some ⟨w6.heap.size, 0, none⟩) 0 0) [] := World.ownsRow_made (base := w.heap.size) (e := 5) (size := 1) w6.drew.drew #[] 0 HK6.out.2.1.drew.drew.mod.size (by decide) rfl
              have hin9 := (HI6.out.quiet (((Mod.refl (fun _ => False) w6.drew).drew).alloc (.cells #[] 5))).dropM hle hnc
              have H9 := Lib.hid (And.intro HS9 (And.intro ho (And.intro hin9 HS9.mod.size)))
              clear HS9 ho hin9
              refine wp_region_planS [1, 6, 7] [0, 2, 3, 4, 5] (0 :: 2 :: 3 :: 4 :: 5 :: 1 :: 6 :: 7 :: 8 :: 9 :: []) (fun w' => Blk w' w5.heap.size 62 #[.bool ((n : Int) == 0), .int .i64 (n : Int), .int .i64 (q : Int)]) (by kernel_rfl) (by kernel_rfl) (fun _ _ _ d _ h => by cases d <;> exact h) hS0 ?_
              refine planS_pure (v := .agg #[.bool ((n : Int) == 0), .int .i64 (n : Int), .int .i64 (q : Int)]) rfl rfl rfl (fun w' hS => ?_) ?_
              · have cS := hS.cell
                go_simp
              iterate 2 (refine planS_pure rfl rfl rfl (fun _ _ => rfl) ?_)
              refine planS_pure (v := .int .i64 (m : Int)) rfl rfl rfl (fun w' hS => ?_) ?_
              · clear hS
                go_simp
              refine planS_pure (v := .slice (if c = m then some ⟨ab, ao, none⟩ else some ⟨ab, ao + m, none⟩) (m0 - m) (c - m)) rfl rfl rfl (fun w' hS => ?_) ?_
              · clear hS
                go_simp
              clear k1 k2 i1 i2 i3
              refine planS_loud rfl rfl (fun K hK => ?_)
              go_simp
              refine hK _ _ (hS0.alloc _) ?_
              clear hK K hS0
              refine planS_loud rfl rfl (fun K hK => ?_)
              refine step_app_u8s _ rfl (.tmp 55) (.tmp 59) rfl w.heap.size (.slice (some ⟨w6.heap.size, 0, none⟩) 0 0) [] _ (m0 - m) (c - m) (l.drop m) rfl rfl H9.out.2.1 H9.out.2.2.1 H9.out.2.2.2 (by simp; omega) ?_
              intro v9 w9 hown9 hM9 _ _
              have HS10 := Sat.beside hM9 H9.out.1.drop_own (fun j e => .inr (World.ownsRow.lt H9.out.2.1 j e).1) (fun e he hb => H9.out.2.1.apart (H9.out.1.drop_own.blk e he) (by simp at he; rcases he with rfl | rfl | rfl <;> (dsimp only; decide)) hb)
              have hne := HS10.apart 0 1 rfl rfl (by omega)
              have hh := HS10.own_ 0 rfl
              have hres := HS10.own_ 1 rfl
              dsimp only at hne hh hres
              refine hK _ _ hh ?_
              clear hK K hM9
              obtain ⟨rc, rf⟩ := hres.both
              have rl := hres.lt
              have hmS : Mod (· = w.heap.size + 1) w9 (((w9.setCell ⟨w.heap.size + 1, 0, none⟩ (.bool ((n : Int) == 0))).setCell ⟨w.heap.size + 1, 1, none⟩ (.int .i64 (n : Int))).setCell ⟨w.heap.size + 1, 2, none⟩ (.int .i64 (q : Int))) := (((Mod.refl (· = w.heap.size + 1) w9).setCell (.inl rfl) _).setCell (.inl rfl) _).setCell (.inl rfl) _
              have hh2 := hh.keep hmS hne
              have ho2 := hown9.mod hmS (fun j e1 e2 => by subst e2; exact hown9.apart hres (by decide) e1)
              rw [List.nil_append] at ho2
              have H10 := Lib.hid (And.intro ho2 (HS10.mod.into hmS (fun i e => .inr (by omega))))
              have Hh2 := Lib.hid hh2
              clear hown9 HS10 hh hres hmS ho2 hh2 H9
              refine planS_loud rfl rfl (fun K hK => ?_)
              go_simp
              refine hK _ _ Hh2.out ?_
              clear hK K
              iterate 2 (refine planS_still rfl rfl (fun K hK => ?_); go_simp; refine hK _ ?_; clear hK K)
              refine planS_done ?_
              go_wp2_with fail
              all_goals
                refine bodyPost_ret (v := .tuple #[.agg #[.bool ((n : Int) == 0), .int .i64 (n : Int), .int .i64 (q : Int)], v9, .int .i64 0]) (by simp [results, Tryz.results29, go_sem, rc]) rfl ⟨H10.out.2, .inr ⟨_, _, _, _, v9, HF.out, rfl, ?_⟩⟩
                rw [show (8 * m + 7) / 8 = m by omega]
                exact H10.out.1
            · have hb1 := strL_ne hEq
              clear hx hm
              generalize strOf x = sx at *
              generalize strOf (l.take m) = sl at *
              go_upto_region 10 with (fail)
              refine wp_region_planS [] [] (0 :: 1 :: 2 :: 3 :: 4 :: 5 :: 6 :: 7 :: 8 :: 9 :: 10 :: 11 :: 12 :: 13 :: 14 :: []) (fun _ => True) (by kernel_rfl) (by kernel_rfl) (fun _ _ _ d _ h => by cases d <;> exact h) trivial ?_
              iterate 15 (refine planS_still rfl rfl (fun K hK => ?_); go_simp; refine hK _ ?_; clear hK K)
              refine planS_done ?_
              go_wp2_with fail
              go_roundw
              case rel => exact ⟨q + 1, by omega, by go_num, noPre_succ HK6.out.1 hlq (fun h => hEq (by rw [HK6.out.2.2.2, HK6.out.2.2.1]; exact h.2)), HK6.out.2.1.drew.drop_own⟩
              case measure => simp [intOf]; omega
          · have d3 : decide ((m : Int) ≤ (m0 : Int)) = false := decide_eq_false (by omega)
            have d4 : decide (m ≤ m0) = false := decide_eq_false hle
            clear hin6 hx hm
            go_upto_region 10 with (fail)
            refine wp_region_planS [] [] (0 :: 1 :: 2 :: 3 :: 4 :: 5 :: 6 :: 7 :: 8 :: 9 :: 10 :: 11 :: 12 :: 13 :: 14 :: []) (fun _ => True) (by kernel_rfl) (by kernel_rfl) (fun _ _ _ d _ h => by cases d <;> exact h) trivial ?_
            iterate 15 (refine planS_still rfl rfl (fun K hK => ?_); go_simp; refine hK _ ?_; clear hK K)
            refine planS_done ?_
            go_wp2_with fail
            go_roundw
            case rel => exact ⟨q + 1, by omega, by go_num, noPre_succ HK6.out.1 hlq (fun h => hle (by rw [HK6.out.2.2.2, HK6.out.2.2.1]; exact Nat.le_trans h.1 (Nat.le_of_eq H0.out.2.2.2))), HK6.out.2.1.drew.drop_own⟩
            case measure => simp [intOf]; omega
        · obtain rfl : q = 32 := by omega
          have HK := Lib.hid (And.intro hno HS)
          clear hno HS
          go_wp2_with fail
          go_roundw
          case rel => exact ⟨n + 1, by omega, by go_num, by rw [Nat.add_mul, Nat.one_mul]; exact HK.out.1, HK.out.2⟩
          case measure => simp [intOf]; omega
    · obtain rfl : n = g := by omega
      go_wp2_with fail
      refine bodyPost_ret (v := .tuple #[.agg #[.bool false, .int .i64 0, .int .i64 0], .slice none 0 0, .int .i64 121]) (by simp [results, Tryz.results29, go_sem, rc]) rfl ⟨?_, .inl ⟨hdr_none rfl HK.out.1, rfl⟩⟩
      have M := HK.out.2.mod
      exact (by repeat' (first | with_reducible exact M | with_reducible refine Mod.setCell ?_ ?_ _ | exact Or.inr (Nat.le_succ _)))
end Go.Proofs.YteppnjgfebcmjaaGreat

/-
  The reference's coder: too little to open.
-/
namespace Go.Proofs.YteppnjgfebcmjaaGreat
open Go.RowKit

set_option maxRecDepth 100000 in
theorem fOpenShort (w : World) (A : Option Addr) (n c : Nat) (h4 : n < 4) : Calls Tryz.prog 30 #[.slice A n c] w fun e w' => ∃ er : Int, (er == 0) = false ∧ e = .returned (.tuple #[.pointer none, .int .i64 er]) ∧ Mod (fun _ => False) w w' := by
  have d0 : decide ((n : Int) < 4) = true := decide_eq_true (by omega)
  clear h4
  go_enter Tryz.func30, Tryz.ntmps30
  go_wp2_with fail
  go_ret2
  exact ⟨_, by decide, rfl, Mod.refl _ _⟩
end Go.Proofs.YteppnjgfebcmjaaGreat
