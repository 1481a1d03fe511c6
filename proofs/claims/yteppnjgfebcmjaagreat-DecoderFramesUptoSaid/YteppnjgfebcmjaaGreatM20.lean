/-
  motion.Sample.
-/
import Derived.Test.YteppnjgfebcmjaaGreatM19
namespace Go.Proofs.YteppnjgfebcmjaaGreat
open Go.RowKit

def smpN (W H : Nat) (pix : List UInt8) (X Y : Int) : Nat :=
  if Y % 2 = 0 then (if X % 2 = 0 then (patL W H pix (X / 2) (Y / 2)).toNat else acrN W H pix (X / 2) (Y / 2))
  else if X % 2 = 0 then dwnN W H pix (X / 2) (Y / 2) else (acrN W H pix (X / 2) (Y / 2) + acrN W H pix (X / 2) (Y / 2 + 1) + 1) / 2

theorem pRight' (w : World) (W H : Nat) (A : Option Addr) (n c : Nat) (h : sidesB W H = true) (hn : n = W * H) : Calls Tryz.prog 45 #[.agg #[.int .i64 (W : Int), .int .i64 (H : Int), .slice A n c]] w fun e w' => e = .returned (.bool true) ∧ Mod (fun _ => False) w w' := by
  subst hn
  exact pRight w W H A c h
theorem and1 (x : Int) : bits BinOp.and IntKind.i64 x 1 = x % 2 := by
  have e1 : (BitVec.ofInt 64 x).toNat = (x % 18446744073709551616).toNat := by rw [BitVec.toNat_ofInt]; rfl
  have e2 : (BitVec.ofInt 64 1).toNat = 1 := by decide
  show IntKind.i64.wrap ((BitVec.ofInt 64 x &&& BitVec.ofInt 64 1).toNat : Nat) = _
  rw [BitVec.toNat_and, e1, e2, Nat.and_one_is_mod, IntWalk.i64_in _ ⟨by omega, by omega⟩]
  omega
theorem pl_cells {w : World} {p : Nat} {W H : Int} {v : Value} (h : Blk w p 35 #[.int .i64 W, .int .i64 H, v]) : w.cell? ⟨p, 0, none⟩ = some (.int .i64 W) ∧ w.cell? ⟨p, 1, none⟩ = some (.int .i64 H) ∧ w.cell? ⟨p, 2, none⟩ = some v := ⟨h.cell 0, h.cell 1, h.cell 2⟩
theorem mAcross' (w : World) (W H : Nat) (A : Option Addr) (n c : Nat) (pix : List UInt8) (h : sidesB W H = true) (hn : n = W * H) (hin : BytesIn w A (W * H) c pix) (x y : Int) (hx : -1073741824 ≤ x ∧ x ≤ 1073741824) :
    Calls Tryz.prog 188 #[.agg #[.int .i64 (W : Int), .int .i64 (H : Int), .slice A n c], .int .i64 x, .int .i64 y] w fun e w' => e = .returned (.int .u8 ((acrN W H pix x y : Nat) : Int)) ∧ Mod (fun _ => False) w w' := by
  subst hn; exact mAcross w W H A c pix h hin x y hx
theorem mDown' (w : World) (W H : Nat) (A : Option Addr) (n c : Nat) (pix : List UInt8) (h : sidesB W H = true) (hn : n = W * H) (hin : BytesIn w A (W * H) c pix) (x y : Int) (hy : -1073741824 ≤ y ∧ y ≤ 1073741824) :
    Calls Tryz.prog 189 #[.agg #[.int .i64 (W : Int), .int .i64 (H : Int), .slice A n c], .int .i64 x, .int .i64 y] w fun e w' => e = .returned (.int .u8 ((dwnN W H pix x y : Nat) : Int)) ∧ Mod (fun _ => False) w w' := by
  subst hn; exact mDown w W H A c pix h hin x y hy
theorem acrN_lt (W H : Nat) (pix : List UInt8) (x y : Int) : acrN W H pix x y < 256 := halfN_lt _ _ _ _ _ _

set_option maxRecDepth 100000 in
set_option maxHeartbeats 1000000 in
theorem mSample (w : World) (W H : Nat) (A : Option Addr) (n c : Nat) (pix : List UInt8) (h : sidesB W H = true) (hn : n = W * H) (hin : BytesIn w A (W * H) c pix) (x y : Int) (hx : -1073741824 ≤ x ∧ x ≤ 1073741824) (hy : -1073741824 ≤ y ∧ y ≤ 1073741824) :
    Calls Tryz.prog 177 #[.agg #[.int .i64 (W : Int), .int .i64 (H : Int), .slice A n c], .int .i64 x, .int .i64 y] w fun e w' => e = .returned (.int .u8 ((smpN W H pix x y : Nat) : Int)) ∧ Mod (fun _ => False) w w' := by
  have HI := Lib.hid (And.intro h (And.intro hin hn))
  clear h hin hn
  have h0 := (Sat.nil (fun _ => False) w)
  obtain ⟨hx1, hx2⟩ := hx
  obtain ⟨hy1, hy2⟩ := hy
  have ax := and1 x
  have ay := and1 y
  have d1 : (bits BinOp.and IntKind.i64 x 1 == 0) = decide (x % 2 = 0) := by rw [ax]; rfl
  have d2 : (bits BinOp.and IntKind.i64 y 1 == 0) = decide (y % 2 = 0) := by rw [ay]; rfl
  have hrs : smpN W H pix x y = smpN W H pix x y := rfl
  conv at hrs => rhs; unfold smpN
  have HD := Lib.hid (And.intro d1 (And.intro d2 hrs))
  clear ax ay d1 d2 hrs
  by_cases hcy : y % 2 = 0
  · have d2 : (bits BinOp.and IntKind.i64 y 1 == 0) = true := HD.out.2.1.trans (decide_eq_true hcy)
    have HR := Lib.hid (HD.out.2.2.trans (if_pos hcy))
    clear hcy
    by_cases hcx : x % 2 = 0
    · have d1 : (bits BinOp.and IntKind.i64 x 1 == 0) = true := HD.out.1.trans (decide_eq_true hcx)
      have HR := Lib.hid (HR.out.trans (if_pos hcx))
      clear hcx
      go_enter Tryz.func177, Tryz.ntmps177; go_wp2_with fail; refine (pRight' _ W H A n c HI.out.1 HI.out.2.2).mono ?_; rintro e w1 ⟨rfl, hm1⟩; have HS := Sat.after hm1 (h0.alloc _ _ rfl); obtain ⟨pc, pf⟩ := (HS.own_ 0 rfl).both; clear hm1; go_wp2_with fail
      refine (pAt' _ W H A n c pix HI.out.1 HI.out.2.2 (HI.out.2.1.quiet HS.mod) _ _).mono ?_
      rintro e w2 ⟨rfl, hm2⟩; go_wp2_with fail; go_ret; exact ⟨by rw [HR.out]; rfl, HS.mod.trans hm2⟩
    · have d1 : (bits BinOp.and IntKind.i64 x 1 == 0) = false := HD.out.1.trans (decide_eq_false hcx)
      have HR := Lib.hid (HR.out.trans (if_neg hcx))
      clear hcx
      go_enter Tryz.func177, Tryz.ntmps177; go_wp2_with fail; refine (pRight' _ W H A n c HI.out.1 HI.out.2.2).mono ?_; rintro e w1 ⟨rfl, hm1⟩; have HS := Sat.after hm1 (h0.alloc _ _ rfl); obtain ⟨pc, pf⟩ := (HS.own_ 0 rfl).both; clear hm1; go_wp2_with fail
      refine (mAcross' _ W H A n c pix HI.out.1 HI.out.2.2 (HI.out.2.1.quiet HS.mod) _ _ ⟨by omega, by omega⟩).mono ?_
      rintro e w2 ⟨rfl, hm2⟩; go_wp2_with fail; go_ret; exact ⟨by rw [HR.out]; rfl, HS.mod.trans hm2⟩
  · have d2 : (bits BinOp.and IntKind.i64 y 1 == 0) = false := HD.out.2.1.trans (decide_eq_false hcy)
    have HR := Lib.hid (HD.out.2.2.trans (if_neg hcy))
    clear hcy
    by_cases hcx : x % 2 = 0
    · have d1 : (bits BinOp.and IntKind.i64 x 1 == 0) = true := HD.out.1.trans (decide_eq_true hcx)
      have HR := Lib.hid (HR.out.trans (if_pos hcx))
      clear hcx
      go_enter Tryz.func177, Tryz.ntmps177; go_wp2_with fail; refine (pRight' _ W H A n c HI.out.1 HI.out.2.2).mono ?_; rintro e w1 ⟨rfl, hm1⟩; have HS := Sat.after hm1 (h0.alloc _ _ rfl); obtain ⟨pc, pf⟩ := (HS.own_ 0 rfl).both; clear hm1; go_wp2_with fail
      refine (mDown' _ W H A n c pix HI.out.1 HI.out.2.2 (HI.out.2.1.quiet HS.mod) _ _ ⟨by omega, by omega⟩).mono ?_
      rintro e w2 ⟨rfl, hm2⟩; go_wp2_with fail; go_ret; exact ⟨by rw [HR.out]; rfl, HS.mod.trans hm2⟩
    · have d1 : (bits BinOp.and IntKind.i64 x 1 == 0) = false := HD.out.1.trans (decide_eq_false hcx)
      have HR := Lib.hid (HR.out.trans (if_neg hcx))
      clear hcx
      go_enter Tryz.func177, Tryz.ntmps177; go_wp2_with fail; refine (pRight' _ W H A n c HI.out.1 HI.out.2.2).mono ?_; rintro e w1 ⟨rfl, hm1⟩; have HS := Sat.after hm1 (h0.alloc _ _ rfl); obtain ⟨pc, pf⟩ := (HS.own_ 0 rfl).both; clear hm1; go_wp2_with fail
      have x0 := (HS.own_ 0 rfl).drew
      have hM := HS.mod.drew
      have y0 : IntKind.i64.wrap (y / 2 + 1) = y / 2 + 1 := IntWalk.i64_in _ ⟨by omega, by omega⟩
      have l1 := acrN_lt W H pix (x / 2) (y / 2)
      have l2 := acrN_lt W H pix (x / 2) (y / 2 + 1)
      clear pc
      go_region_held3 (fun w' => w'.cell? ⟨w.heap.size, 0, none⟩ = some (.int .i64 (W : Int)) ∧ w'.cell? ⟨w.heap.size, 1, none⟩ = some (.int .i64 (H : Int)) ∧ w'.cell? ⟨w.heap.size, 2, none⟩ = some (.slice A n c)) (first | exact pl_cells x0 | exact pl_cells (HS.own_ 0 rfl)) (first | (go_at_call 188; refine (mAcross' _ W H A n c pix HI.out.1 HI.out.2.2 (HI.out.2.1.quiet hM) _ _ ⟨by omega, by omega⟩).mono ?_; rintro e w2 ⟨rfl, hm2⟩; have x0 := x0.keep hm2 (fun h => h); have hM := hM.trans hm2; clear hm2))
      clear y0
      go_wp2_with fail
      go_ret
      refine ⟨congrArg (fun z => Ending.returned (.int .u8 z)) ?_, hM⟩
      rw [HR.out]
      generalize acrN W H pix (x / 2) (y / 2) = a at *
      generalize acrN W H pix (x / 2) (y / 2 + 1) = b at *
      rw [IntWalk.i64_in (a : Int) ⟨by omega, by omega⟩, IntWalk.i64_in (b : Int) ⟨by omega, by omega⟩, IntWalk.i64_in ((a : Int) + (b : Int)) ⟨by omega, by omega⟩, IntWalk.i64_in ((a : Int) + (b : Int) + 1) ⟨by omega, by omega⟩, IntWalk.u8_in _ ⟨by omega, by omega⟩]
      omega
end Go.Proofs.YteppnjgfebcmjaaGreat

/-
  motion.Block, Chroma.
-/
namespace Go.Proofs.YteppnjgfebcmjaaGreat
open Go.RowKit

theorem smpN_lt (W H : Nat) (pix : List UInt8) (X Y : Int) : smpN W H pix X Y < 256 := by
  unfold smpN dwnN
  have h1 := acrN_lt W H pix (X / 2) (Y / 2)
  have h2 := acrN_lt W H pix (X / 2) (Y / 2 + 1)
  split
  · split
    · exact UInt8.toNat_lt _
    · exact h1
  · split
    · exact halfN_lt _ _ _ _ _ _
    · omega
def mvF (W H : Nat) (pix : List UInt8) (x y : Int) (n : Nat) (vx vy : Int) (k : Nat) : UInt8 := UInt8.ofNat (smpN W H pix (2 * (x + ((k % n : Nat) : Int)) + vx) (2 * (y + ((k / n : Nat) : Int)) + vy))
def mvL (W H : Nat) (pix : List UInt8) (x y : Int) (n : Nat) (vx vy : Int) : List UInt8 := (List.range (n * n)).map (mvF W H pix x y n vx vy)
theorem mvF_at (W H : Nat) (pix : List UInt8) (x y : Int) (n : Nat) (vx vy : Int) (j i : Nat) (hi : i < n) : (mvF W H pix x y n vx vy (j * n + i)).toNat = smpN W H pix (2 * (x + (i : Int)) + vx) (2 * (y + (j : Int)) + vy) := by
  unfold mvF
  have h1 : (j * n + i) % n = i := by rw [Nat.mul_comm, Nat.mul_add_mod, Nat.mod_eq_of_lt hi]
  have h2 : (j * n + i) / n = j := by rw [Nat.mul_comm, Nat.mul_add_div (by omega), Nat.div_eq_of_lt hi, Nat.add_zero]
  rw [h1, h2]
  have := smpN_lt W H pix (2 * (x + (i : Int)) + vx) (2 * (y + (j : Int)) + vy)
  rw [UInt8.toNat_ofNat']
  omega
theorem madeFill (f : Nat → UInt8) (n : Nat) : (u8s (List.replicate n 0)).toArray = (u8s (fillL f n 0)).toArray := by rw [fillL_zero]

def MvRel (w : World) (q p v N n : Nat) (pv vv : Array Value) (f : Nat → UInt8) (s49 : Value) (wr : World) : Prop :=
  ∃ j : Nat, j ≤ n ∧ s49 = .int .i64 (j : Int) ∧ Sat (fun _ => False) w wr [⟨q, 5, (u8s (fillL f N (j * n))).toArray⟩, ⟨v, 125, vv⟩, ⟨p, 35, pv⟩] []
def MvRel2 (w : World) (q p v N n j : Nat) (pv vv : Array Value) (f : Nat → UInt8) (s53 : Value) (wr : World) : Prop :=
  ∃ i : Nat, i ≤ n ∧ s53 = .int .i64 (i : Int) ∧ Sat (fun _ => False) w wr [⟨q, 5, (u8s (fillL f N (j * n + i))).toArray⟩, ⟨v, 125, vv⟩, ⟨p, 35, pv⟩] []

set_option maxRecDepth 100000 in
set_option maxHeartbeats 2000000 in
theorem mBlock (w : World) (W H : Nat) (A : Option Addr) (m c : Nat) (pix : List UInt8) (h : sidesB W H = true) (hm : m = W * H) (hin : BytesIn w A (W * H) c pix) (x y vx vy : Int) (n : Nat) (hx : -1048576 ≤ x ∧ x ≤ 1048576) (hy : -1048576 ≤ y ∧ y ≤ 1048576) (hvx : -1048576 ≤ vx ∧ vx ≤ 1048576) (hvy : -1048576 ≤ vy ∧ vy ≤ 1048576) (hn : 1 ≤ n ∧ n ≤ 64) :
    Calls Tryz.prog 162 #[.agg #[.int .i64 (W : Int), .int .i64 (H : Int), .slice A m c], .int .i64 x, .int .i64 y, .int .i64 (n : Int), .agg #[.int .i64 vx, .int .i64 vy]] w
      fun e w' => ∃ g N, N = n * n ∧ e = .returned (.slice (some ⟨g, 0, none⟩) N N) ∧ Blk w' g 5 (u8s (mvL W H pix x y n vx vy)).toArray ∧ w.heap.size ≤ g ∧ Mod (fun _ => False) w w' := by
  have HI := Lib.hid (And.intro h (And.intro hin hm))
  clear h hin hm
  have h0 := (Sat.nil (fun _ => False) w)
  obtain ⟨hx1, hx2⟩ := hx
  obtain ⟨hy1, hy2⟩ := hy
  obtain ⟨hvx1, hvx2⟩ := hvx
  obtain ⟨hvy1, hvy2⟩ := hvy
  obtain ⟨hn1, hn2⟩ := hn
  obtain ⟨N, hN⟩ : ∃ N, N = n * n := ⟨_, rfl⟩
  have hNb : N ≤ 4096 := by rw [hN]; exact Nat.le_trans (Nat.mul_le_mul hn2 hn2) (by omega)
  have hNi : wrap64 ((n : Int) * (n : Int)) = (N : Int) := by
    rw [show (n : Int) * (n : Int) = (N : Int) by rw [hN]; simp]
    exact IntWalk.wrap64_in _ ⟨by omega, by omega⟩
  have HN := Lib.hid (And.intro hN hNi)
  clear hN hNi
  have t1 : decide ((n : Int) < 1) = false := decide_eq_false (by omega)
  have t2 : decide (64 < (n : Int)) = false := decide_eq_false (by omega)
  go_enter Tryz.func162, Tryz.ntmps162
  go_wp2_with fail
  refine (pRight' _ W H A m c HI.out.1 HI.out.2.2).mono ?_
  rintro e w1 ⟨rfl, hm1⟩
  have HS := Sat.after hm1 ((h0.alloc _ _ rfl).alloc (g := w.heap.size + 1) _ _ (by simp))
  clear hm1 h0
  obtain ⟨vc, vf⟩ := (HS.own_ 0 rfl).both
  have HH := Lib.hid HS
  clear HS
  go_wp2_with fail
  clear vc vf
  go_loop [34] (fun i => ∃ k : Nat, k ≤ 4 ∧ i = .int .i64 (k : Int)) (fun i => 4 - (intOf i).toNat)
  case atStart => exact ⟨0, by omega, rfl⟩
  case round =>
    obtain ⟨k, hk, rfl⟩ := hrel
    have a1 : decide (x < -1048576) = false := decide_eq_false (by omega)
    have a2 : decide (1048576 < x) = false := decide_eq_false (by omega)
    have b1 : decide (y < -1048576) = false := decide_eq_false (by omega)
    have b2 : decide (1048576 < y) = false := decide_eq_false (by omega)
    have c1 : decide (vx < -1048576) = false := decide_eq_false (by omega)
    have c2 : decide (1048576 < vx) = false := decide_eq_false (by omega)
    have d1 : decide (vy < -1048576) = false := decide_eq_false (by omega)
    have d2 : decide (1048576 < vy) = false := decide_eq_false (by omega)
    have i0 : ∀ w, (Instr.index 193 (.agg #[.int .i64 x, .int .i64 y, .int .i64 vx, .int .i64 vy]) (.int .i64 0)).run Tryz.prog w = .ok (.int .i64 x) w := fun _ => by kernel_rfl
    have i1 : ∀ w, (Instr.index 193 (.agg #[.int .i64 x, .int .i64 y, .int .i64 vx, .int .i64 vy]) (.int .i64 1)).run Tryz.prog w = .ok (.int .i64 y) w := fun _ => by kernel_rfl
    have i2 : ∀ w, (Instr.index 193 (.agg #[.int .i64 x, .int .i64 y, .int .i64 vx, .int .i64 vy]) (.int .i64 2)).run Tryz.prog w = .ok (.int .i64 vx) w := fun _ => by kernel_rfl
    have i3 : ∀ w, (Instr.index 193 (.agg #[.int .i64 x, .int .i64 y, .int .i64 vx, .int .i64 vy]) (.int .i64 3)).run Tryz.prog w = .ok (.int .i64 vy) w := fun _ => by kernel_rfl
    have hcs : k = 0 ∨ k = 1 ∨ k = 2 ∨ k = 3 ∨ k = 4 := by omega
    clear hk
    rcases hcs with rfl | rfl | rfl | rfl | rfl
    · go_wp2_with fail
      go_round
      case rel => exact ⟨1, by omega, by go_num⟩
      case measure => simp [intOf]
    · go_wp2_with fail
      go_round
      case rel => exact ⟨2, by omega, by go_num⟩
      case measure => simp [intOf]
    · go_wp2_with fail
      go_round
      case rel => exact ⟨3, by omega, by go_num⟩
      case measure => simp [intOf]
    · go_wp2_with fail
      go_round
      case rel => exact ⟨4, by omega, by go_num⟩
      case measure => simp [intOf]
    · clear i0 i1 i2 i3 a1 a2 b1 b2 c1 c2 d1 d2
      go_wp2_with (refine wpList_mk_u8 _ rfl (.tmp 46) (.tmp 46) rfl N (congrArg (Value.int .i64) HN.out.2) (congrArg (Value.int .i64) HN.out.2) (by omega) ?_; intro w3 hb3 hm3; have HO := Lib.hid (And.intro hb3 hm3); clear hb3 hm3)
      have hq0 := HO.out.1
      rw [madeFill (mvF W H pix x y n vx vy)] at hq0
      have hqs : w.heap.size + 2 ≤ w1.heap.size := by
        have h1 := (HH.out.own_ 0 rfl).lt
        exact h1
      have HS3 := (HH.out.quiet HO.out.2).add_own (g := w1.heap.size) hq0 (.inr (by omega)) (by
        intro e he
        have := (HH.out.blk e he).lt
        omega)
      obtain ⟨q, hq⟩ : ∃ q, q = w1.heap.size := ⟨_, rfl⟩
      have hqw : w.heap.size ≤ q := by omega
      rw [← hq] at HS3 ⊢
      obtain ⟨f, hf⟩ : ∃ f, f = mvF W H pix x y n vx vy := ⟨_, rfl⟩
      rw [← hf] at HS3
      have HF := Lib.hid hf
      clear hf hq hq0 hqs HO HH
      go_wp2_with fail
      go_loopw [49] (MvRel w q w.heap.size (w.heap.size + 1) N n #[.int .i64 (W : Int), .int .i64 (H : Int), .slice A m c] #[.int .i64 vx, .int .i64 vy] f) (fun s _ => n - (intOf s).toNat)
      case atStart => exact ⟨0, by omega, rfl, by rw [Nat.zero_mul]; exact HS3⟩
      case round =>
        clear HS3
        obtain ⟨j, hj, rfl, HSj⟩ := hrel
        have HJ := Lib.hid HSj
        clear HSj
        by_cases hlt : j < n
        · have d1 : decide ((j : Int) < (n : Int)) = true := decide_eq_true (by omega)
          obtain ⟨m0, hm0⟩ : ∃ m0, m0 = j * n := ⟨_, rfl⟩
          have hmn : m0 + n ≤ N := by
            rw [hm0, HN.out.1]
            have := Nat.mul_le_mul_right n (show j + 1 ≤ n by omega)
            rw [Nat.add_mul, Nat.one_mul] at this
            exact this
          have hmw : wrap64 ((j : Int) * (n : Int)) = (m0 : Int) := by
            rw [show (j : Int) * (n : Int) = (m0 : Int) by rw [hm0]; simp]
            exact IntWalk.wrap64_in _ ⟨by omega, by omega⟩
          have HM := Lib.hid (And.intro hm0 hmw)
          clear hm0 hmw
          go_wp2_with fail
          go_loopw [53] (MvRel2 w q w.heap.size (w.heap.size + 1) N n j #[.int .i64 (W : Int), .int .i64 (H : Int), .slice A m c] #[.int .i64 vx, .int .i64 vy] f) (fun s _ => n - (intOf s).toNat)
          case atStart => exact ⟨0, by omega, rfl, HJ.out⟩
          case round =>
            clear HJ
            rename World => w5
            obtain ⟨i, hi, rfl, HSi⟩ := hrel
            by_cases hli : i < n
            · have d2 : decide ((i : Int) < (n : Int)) = true := decide_eq_true (by omega)
              obtain ⟨vc, vf⟩ := (HSi.own_ 1 rfl).both
              obtain ⟨pc, pf⟩ := (HSi.own_ 2 rfl).both
              have hff : smpN W H pix (2 * (x + (i : Int)) + vx) (2 * (y + (j : Int)) + vy) = (f (j * n + i)).toNat := by rw [HF.out, mvF_at _ _ _ _ _ _ _ _ _ _ hli]
              have HG := Lib.hid (And.intro HSi hff)
              clear HSi hff
              go_wp2_with fail
              refine (mSample _ W H A m c pix HI.out.1 HI.out.2.2 (HI.out.2.1.quiet HG.out.1.mod) _ _ ⟨by omega, by omega⟩ ⟨by omega, by omega⟩).mono ?_
              rintro e w4 ⟨rfl, hm4⟩
              have HS4 := Sat.after hm4 HG.out.1
              clear hm4 pc pf vc vf
              have qf := (HS4.own_ 0 rfl).frozen
              have ql := (HS4.own_ 0 rfl).lt
              rw [HG.out.2]
              rw [← HM.out.1] at HS4 ⊢
              have q0 := fill_cell (HS4.own_ 0 rfl) (show m0 + i < N by omega)
              rw [HM.out.2, IntWalk.wrap64_in ((m0 : Int) + (i : Int)) ⟨by omega, by omega⟩]
              have HG4 := Lib.hid HS4
              clear HS4
              go_wp2_with fail
              go_roundw
              case rel => exact ⟨i + 1, by omega, by go_num, by rw [← HM.out.1]; exact HG4.out.put (Upd.here (fill_set f N (m0 + i)))⟩
              case measure => simp [intOf]; omega
            · obtain rfl : i = n := by omega
              have HG := Lib.hid HSi
              clear HSi
              go_wp2_with fail
              go_roundw
              case rel => exact ⟨j + 1, by omega, by go_num, by rw [Nat.add_mul, Nat.one_mul]; exact HG.out⟩
              case measure => simp [intOf]; omega
        · obtain rfl : j = n := by omega
          go_wp2_with fail
          go_ret
          have hb := HJ.out.own_ 0 rfl
          rw [show (j * j) = N from HN.out.1.symm, fillL_all, HF.out] at hb
          refine ⟨q, N, HN.out.1, rfl, ?_, hqw, HJ.out.mod⟩
          unfold mvL
          rw [← HN.out.1]
          exact hb
end Go.Proofs.YteppnjgfebcmjaaGreat

/-
  The reference's motion: floor, half, across, down.
-/
namespace Go.Proofs.YteppnjgfebcmjaaGreat
open Go.RowKit

theorem floor_neg (v n : Int) (hn : 0 < n) : -((n - 1 - v) / n) = v / n := by
  have h1 := Int.mul_ediv_add_emod v n
  have h2 := Int.emod_nonneg v (show n ≠ 0 by omega)
  have h3 := Int.emod_lt_of_pos v hn
  have e : n - 1 - v = (n - 1 - v % n) + n * (-(v / n)) := by rw [Int.mul_neg]; omega
  rw [e, Int.add_mul_ediv_left _ _ (by omega), Int.ediv_eq_zero_of_lt (by omega) (by omega)]
  omega
theorem fFloor (w : World) (v : Int) (n : Nat) (hn : 1 ≤ n ∧ n ≤ 64) (hv : -4611686018427387904 ≤ v ∧ v ≤ 4611686018427387904) : Calls Tryz.prog 146 #[.int .i64 v, .int .i64 (n : Int)] w fun e w' => e = .returned (.int .i64 (v / (n : Int))) ∧ w = w' := by
  obtain ⟨hn1, hn2⟩ := hn
  obtain ⟨hv1, hv2⟩ := hv
  by_cases h : 0 ≤ v
  · have d1 : decide (0 ≤ v) = true := decide_eq_true h
    go_enter Tryz.func146, Tryz.ntmps146
    go_wp2_with fail
    go_ret
    exact ⟨rfl, rfl⟩
  · have d1 : decide (0 ≤ v) = false := decide_eq_false h
    go_enter Tryz.func146, Tryz.ntmps146
    go_wp2_with fail
    go_ret
    exact ⟨congrArg (fun z => Ending.returned (.int .i64 z)) (by
      rw [floor_neg v (n : Int) (by omega)]
      have b1 : v / (n : Int) < 0 := Int.ediv_neg_of_neg_of_pos h (by omega)
      have b2 : v ≤ v / (n : Int) := Int.le_ediv_of_mul_le (by omega) (by
        have := Int.mul_le_mul_of_nonpos_left (a := v) (show v ≤ 0 by omega) (show (1 : Int) ≤ (n : Int) by omega)
        omega)
      exact IntWalk.wrap64_in _ ⟨by omega, by omega⟩), rfl⟩

set_option maxRecDepth 100000 in
set_option maxHeartbeats 1000000 in
theorem fHalf (w : World) (a b c d e f : Nat) (ha : a < 256) (hb : b < 256) (hc : c < 256) (hd : d < 256) (he : e < 256) (hf : f < 256) :
    Calls Tryz.prog 181 #[.agg #[.int .i64 (a : Int), .int .i64 (b : Int), .int .i64 (c : Int), .int .i64 (d : Int), .int .i64 (e : Int), .int .i64 (f : Int)]] w fun r w' => r = .returned (.int .i64 ((halfN a b c d e f : Nat) : Int)) ∧ Mod (fun _ => False) w w' := by
  go_enter Tryz.func181, Tryz.ntmps181
  go_wp2_with fail
  refine (fFloor _ _ 32 ⟨by omega, by omega⟩ ⟨by omega, by omega⟩).mono ?_
  rintro r w1 ⟨rfl, rfl⟩
  go_wp2_with fail
  all_goals
    go_ret
    refine ⟨congrArg (fun z => Ending.returned (.int .i64 z)) ?_, (Mod.refl _ _).alloc _⟩
    unfold halfN clipN halfI
    (repeat' split) <;> omega

def filI (f : Nat → Nat) (n k : Nat) : Array Value := ((List.range n).map fun i => Value.int .i64 ((if i < k then f i else 0 : Nat) : Int)).toArray
theorem filI6 (f : Nat → Nat) : filI f 6 6 = #[.int .i64 (f 0 : Int), .int .i64 (f 1 : Int), .int .i64 (f 2 : Int), .int .i64 (f 3 : Int), .int .i64 (f 4 : Int), .int .i64 (f 5 : Int)] := rfl
theorem filI6_0 (f : Nat → Nat) : filI f 6 0 = #[.int .i64 0, .int .i64 0, .int .i64 0, .int .i64 0, .int .i64 0, .int .i64 0] := rfl
theorem filI_set (f : Nat → Nat) (n k : Nat) : (filI f n k).setIfInBounds k (.int .i64 (f k : Int)) = filI f n (k + 1) := by
  unfold filI
  rw [List.setIfInBounds_toArray]
  refine congrArg List.toArray (List.ext_getElem (by simp) fun i h1 h2 => ?_)
  simp only [List.getElem_set, List.getElem_map, List.getElem_range]
  by_cases e : k = i
  · subst e; simp
  · rw [if_neg e]
    by_cases h : i < k
    · rw [if_pos h, if_pos (by omega)]
    · rw [if_neg h, if_neg (by omega)]
theorem filI_cell {w : World} {q n k : Nat} {t : TypeId} {f : Nat → Nat} (hb : Blk w q t (filI f n k)) (hk : k < n) : w.cell? ⟨q, k, none⟩ = some (.int .i64 0) := by
  rw [hb.cell]
  unfold filI
  rw [List.getElem?_toArray]
  simp [hk]
def FSix (w : World) (p q : Nat) (pv : Array Value) (f : Nat → Nat) (i : Value) (wr : World) : Prop :=
  ∃ k : Nat, k ≤ 6 ∧ i = .int .i64 (k : Int) ∧ Sat (fun _ => False) w wr [⟨q, 225, filI f 6 k⟩, ⟨p, 35, pv⟩] []

set_option maxRecDepth 100000 in
set_option maxHeartbeats 1000000 in
theorem fAcross (w : World) (W H : Nat) (A : Option Addr) (n c : Nat) (pix : List UInt8) (h : sidesB W H = true) (hn : n = W * H) (hin : BytesIn w A n c pix) (x y : Int) (hx : -1073741824 ≤ x ∧ x ≤ 1073741824) :
    Calls Tryz.prog 168 #[.agg #[.int .i64 (W : Int), .int .i64 (H : Int), .slice A n c], .int .i64 x, .int .i64 y] w fun e w' => e = .returned (.int .i64 ((acrN W H pix x y : Nat) : Int)) ∧ Mod (fun _ => False) w w' := by
  have HI := Lib.hid (And.intro h (And.intro hin hn))
  clear h hin hn
  have h0 := (Sat.nil (fun _ => False) w)
  obtain ⟨hx1, hx2⟩ := hx
  go_enter Tryz.func168, Tryz.ntmps168
  go_wp2_with fail
  obtain ⟨f, hf⟩ : ∃ f : Nat → Nat, f = fun (i : Nat) => (patL W H pix (x - 2 + (i : Int)) y).toNat := ⟨_, rfl⟩
  have HF := Lib.hid hf
  clear hf
  go_loopw [8] (FSix w w.heap.size (w.heap.size + 1) #[.int .i64 (W : Int), .int .i64 (H : Int), .slice A n c] f) (fun i _ => 6 - (intOf i).toNat)
  case atStart => exact ⟨0, by omega, rfl, by rw [filI6_0]; exact (by repeat' (first | with_reducible exact h0 | with_reducible refine Sat.put ?_ ?_ | with_reducible refine Sat.alloc ?_ _ _ ?_ | with_reducible rfl | (show (World.heap _).size = _; simp; done) | with_reducible refine Sat.drewN ?_ _ | with_reducible refine Sat.drew ?_ | exact Upd.here rfl | exact Upd.there (Upd.here rfl) | exact Upd.there (Upd.there (Upd.here rfl)) | exact Upd.there (Upd.there (Upd.there (Upd.here rfl))) | exact Upd.there (Upd.there (Upd.there (Upd.there (Upd.here rfl))))))⟩
  case round =>
    obtain ⟨k, hk, rfl, HS⟩ := hrel
    obtain ⟨pc, pf⟩ := (HS.own_ 1 rfl).both
    obtain ⟨qc, qf⟩ := (HS.own_ 0 rfl).both
    have pl := (HS.own_ 1 rfl).lt
    have ql := (HS.own_ 0 rfl).lt
    have HH := Lib.hid HS
    clear HS
    by_cases hlt : k < 6
    · have d1 : decide ((k : Int) < 6) = true := decide_eq_true (by omega)
      have hfk : (patL W H pix (x - 2 + (k : Int)) y).toNat = f k := by rw [HF.out]
      have HK := Lib.hid hfk
      clear hfk qc qf
      go_wp2_with fail
      refine (fAt _ W H A n c pix HI.out.1 HI.out.2.2 (HI.out.2.1.quiet HH.out.mod) _ _).mono ?_
      rintro e w1 ⟨rfl, hm1⟩
      have HS1 := Sat.after hm1 HH.out
      clear hm1 pc pf pl ql
      have qf := (HS1.own_ 0 rfl).frozen
      have ql := (HS1.own_ 0 rfl).lt
      have q0 := filI_cell (HS1.own_ 0 rfl) hlt
      have x0 : (patL W H pix (x - 2 + (k : Int)) y).toNat < 256 := UInt8.toNat_lt _
      have HG := Lib.hid HS1
      clear HS1
      rw [HK.out] at x0 ⊢
      go_wp2_with fail
      go_roundw
      case rel => exact ⟨k + 1, by omega, by go_num, HG.out.put (Upd.here (filI_set f 6 k))⟩
      case measure => simp [intOf]; omega
    · obtain rfl : k = 6 := by omega
      have hb := HH.out.own_ 0 rfl
      rw [filI6] at hb
      have q0 : wr.cell? ⟨w.heap.size + 1, 0, none⟩ = some (.int .i64 (f 0 : Int)) := hb.cell 0
      have q1 : wr.cell? ⟨w.heap.size + 1, 1, none⟩ = some (.int .i64 (f 1 : Int)) := hb.cell 1
      have q2 : wr.cell? ⟨w.heap.size + 1, 2, none⟩ = some (.int .i64 (f 2 : Int)) := hb.cell 2
      have q3 : wr.cell? ⟨w.heap.size + 1, 3, none⟩ = some (.int .i64 (f 3 : Int)) := hb.cell 3
      have q4 : wr.cell? ⟨w.heap.size + 1, 4, none⟩ = some (.int .i64 (f 4 : Int)) := hb.cell 4
      have q5 : wr.cell? ⟨w.heap.size + 1, 5, none⟩ = some (.int .i64 (f 5 : Int)) := hb.cell 5
      have hf8 : ∀ i, f i < 256 := fun i => by rw [HF.out]; exact UInt8.toNat_lt _
      clear hb pc pf pl qc qf
      go_wp2_with fail
      refine (fHalf _ _ _ _ _ _ _ (hf8 _) (hf8 _) (hf8 _) (hf8 _) (hf8 _) (hf8 _)).mono ?_
      rintro e w1 ⟨rfl, hm1⟩
      have hM := HH.out.mod.trans hm1
      clear hm1 ql q0 q1 q2 q3 q4 q5
      go_wp2_with fail
      go_ret
      exact ⟨by rw [HF.out]; simp [acrN], hM⟩
set_option maxRecDepth 100000 in
set_option maxHeartbeats 1000000 in
theorem fDown (w : World) (W H : Nat) (A : Option Addr) (n c : Nat) (pix : List UInt8) (h : sidesB W H = true) (hn : n = W * H) (hin : BytesIn w A n c pix) (x y : Int) (hx : -1073741824 ≤ y ∧ y ≤ 1073741824) :
    Calls Tryz.prog 169 #[.agg #[.int .i64 (W : Int), .int .i64 (H : Int), .slice A n c], .int .i64 x, .int .i64 y] w fun e w' => e = .returned (.int .i64 ((dwnN W H pix x y : Nat) : Int)) ∧ Mod (fun _ => False) w w' := by
  have HI := Lib.hid (And.intro h (And.intro hin hn))
  clear h hin hn
  have h0 := (Sat.nil (fun _ => False) w)
  obtain ⟨hx1, hx2⟩ := hx
  go_enter Tryz.func169, Tryz.ntmps169
  go_wp2_with fail
  obtain ⟨f, hf⟩ : ∃ f : Nat → Nat, f = fun (i : Nat) => (patL W H pix x (y - 2 + (i : Int))).toNat := ⟨_, rfl⟩
  have HF := Lib.hid hf
  clear hf
  go_loopw [8] (FSix w w.heap.size (w.heap.size + 1) #[.int .i64 (W : Int), .int .i64 (H : Int), .slice A n c] f) (fun i _ => 6 - (intOf i).toNat)
  case atStart => exact ⟨0, by omega, rfl, by rw [filI6_0]; exact (by repeat' (first | with_reducible exact h0 | with_reducible refine Sat.put ?_ ?_ | with_reducible refine Sat.alloc ?_ _ _ ?_ | with_reducible rfl | (show (World.heap _).size = _; simp; done) | with_reducible refine Sat.drewN ?_ _ | with_reducible refine Sat.drew ?_ | exact Upd.here rfl | exact Upd.there (Upd.here rfl) | exact Upd.there (Upd.there (Upd.here rfl)) | exact Upd.there (Upd.there (Upd.there (Upd.here rfl))) | exact Upd.there (Upd.there (Upd.there (Upd.there (Upd.here rfl))))))⟩
  case round =>
    obtain ⟨k, hk, rfl, HS⟩ := hrel
    obtain ⟨pc, pf⟩ := (HS.own_ 1 rfl).both
    obtain ⟨qc, qf⟩ := (HS.own_ 0 rfl).both
    have pl := (HS.own_ 1 rfl).lt
    have ql := (HS.own_ 0 rfl).lt
    have HH := Lib.hid HS
    clear HS
    by_cases hlt : k < 6
    · have d1 : decide ((k : Int) < 6) = true := decide_eq_true (by omega)
      have hfk : (patL W H pix x (y - 2 + (k : Int))).toNat = f k := by rw [HF.out]
      have HK := Lib.hid hfk
      clear hfk qc qf
      go_wp2_with fail
      refine (fAt _ W H A n c pix HI.out.1 HI.out.2.2 (HI.out.2.1.quiet HH.out.mod) _ _).mono ?_
      rintro e w1 ⟨rfl, hm1⟩
      have HS1 := Sat.after hm1 HH.out
      clear hm1 pc pf pl ql
      have qf := (HS1.own_ 0 rfl).frozen
      have ql := (HS1.own_ 0 rfl).lt
      have q0 := filI_cell (HS1.own_ 0 rfl) hlt
      have x0 : (patL W H pix x (y - 2 + (k : Int))).toNat < 256 := UInt8.toNat_lt _
      have HG := Lib.hid HS1
      clear HS1
      rw [HK.out] at x0 ⊢
      go_wp2_with fail
      go_roundw
      case rel => exact ⟨k + 1, by omega, by go_num, HG.out.put (Upd.here (filI_set f 6 k))⟩
      case measure => simp [intOf]; omega
    · obtain rfl : k = 6 := by omega
      have hb := HH.out.own_ 0 rfl
      rw [filI6] at hb
      have q0 : wr.cell? ⟨w.heap.size + 1, 0, none⟩ = some (.int .i64 (f 0 : Int)) := hb.cell 0
      have q1 : wr.cell? ⟨w.heap.size + 1, 1, none⟩ = some (.int .i64 (f 1 : Int)) := hb.cell 1
      have q2 : wr.cell? ⟨w.heap.size + 1, 2, none⟩ = some (.int .i64 (f 2 : Int)) := hb.cell 2
      have q3 : wr.cell? ⟨w.heap.size + 1, 3, none⟩ = some (.int .i64 (f 3 : Int)) := hb.cell 3
      have q4 : wr.cell? ⟨w.heap.size + 1, 4, none⟩ = some (.int .i64 (f 4 : Int)) := hb.cell 4
      have q5 : wr.cell? ⟨w.heap.size + 1, 5, none⟩ = some (.int .i64 (f 5 : Int)) := hb.cell 5
      have hf8 : ∀ i, f i < 256 := fun i => by rw [HF.out]; exact UInt8.toNat_lt _
      clear hb pc pf pl qc qf
      go_wp2_with fail
      refine (fHalf _ _ _ _ _ _ _ (hf8 _) (hf8 _) (hf8 _) (hf8 _) (hf8 _) (hf8 _)).mono ?_
      rintro e w1 ⟨rfl, hm1⟩
      have hM := HH.out.mod.trans hm1
      clear hm1 ql q0 q1 q2 q3 q4 q5
      go_wp2_with fail
      go_ret
      exact ⟨by rw [HF.out]; simp [dwnN], hM⟩
end Go.Proofs.YteppnjgfebcmjaaGreat
