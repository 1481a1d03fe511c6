/-
  intra.look.
-/
import Derived.Test.YteppnjgfebcmjaaGreatM24
import Derived.Test.YteppnjgfebcmjaaGreatM12
import Derived.Test.YteppnjgfebcmjaaGreatM2
import Derived.Test.YteppnjgfebcmjaaGreatM18
import Derived.Deep.DeepCutAuto
namespace Go.Proofs.YteppnjgfebcmjaaGreat
open Go.RowKit

def lkAb (W : Nat) (pix : List UInt8) (x y : Nat) : List UInt8 := (List.range 8).map fun i => if 0 < y then pix.getD (y * W + x - W + i) 0 else 128
def lkLf (W : Nat) (pix : List UInt8) (x y : Nat) : List UInt8 := (List.range 8).map fun i => if 0 < x then pix.getD (y * W + x + i * W - 1) 0 else 128
def lkCo (W : Nat) (pix : List UInt8) (x y : Nat) : UInt8 := if 0 < x ∧ 0 < y then pix.getD (y * W + x - W - 1) 0 else 128

theorem BytesIn.part {w : World} {b off n c : Nat} {l : List UInt8} (h : BytesIn w (some ⟨b, off, none⟩) n c l) {lo m : Nat} (hlo : lo + m ≤ n) : Src w 1 (some ⟨b, off + lo, none⟩) m (u8s ((l.drop lo).take m)) := by
  obtain ⟨h1, _, h3, _⟩ := h
  refine ⟨by rw [u8s_length]; simp; omega, (fun h => by cases h), fun ad e j u hu => ?_⟩
  injection e with e
  subst e
  have hj : j < m := by
    have := (List.getElem?_eq_some_iff.1 hu).1
    rw [u8s_length] at this
    simp at this
    omega
  have hu2 : (u8s l)[lo + j]? = some u := by
    unfold u8s at hu ⊢
    rw [List.getElem?_map, List.getElem?_take, if_pos hj, List.getElem?_drop] at hu
    rw [List.getElem?_map]
    exact hu
  have := h3.2.2 _ rfl _ _ hu2
  rw [addr_add'] at this ⊢
  rw [← this]
  congr 2
  omega
theorem ar_splice {ab lf l : List UInt8} {co : UInt8} (h1 : ab.length = 8) (hl : l.length = 8) : (splice (arL ab lf co) 1 (u8s l)).toArray = arV l lf co := by
  unfold splice arL arV arL
  rw [u8s_length, hl]
  have e : (u8s ab ++ (u8s lf ++ [Value.int IntKind.u8 (co.toNat : Int)])).drop 8 = u8s lf ++ [Value.int IntKind.u8 (co.toNat : Int)] := by
    rw [List.drop_append_of_le_length (by rw [u8s_length]; omega), List.drop_eq_nil_of_le (by rw [u8s_length]; omega)]
    rfl
  simp [e]
theorem lkAb_eq {W x y lo m0 : Nat} {pix : List UInt8} (hy : 0 < y) (hm0 : m0 = y * W) (hlo : lo = m0 + x - W) (hl : lo + 8 ≤ pix.length) : (pix.drop lo).take 8 = lkAb W pix x y := by
  unfold lkAb
  refine List.ext_getElem (by simp; omega) fun i h1 h2 => ?_
  simp only [List.getElem_take, List.getElem_drop, List.getElem_map, List.getElem_range, if_pos hy, ← hm0, ← hlo]
  rw [List.getD_eq_getElem?_getD, List.getElem?_eq_getElem (by simp at h1; omega)]
  rfl
def lkTo (W : Nat) (pix : List UInt8) (x y k : Nat) : List UInt8 := (List.range 8).map fun i => if i < k then pix.getD (y * W + x + i * W - 1) 0 else 128
theorem lkTo_length (W : Nat) (pix : List UInt8) (x y k : Nat) : (lkTo W pix x y k).length = 8 := by simp [lkTo]
theorem lkAb_length (W : Nat) (pix : List UInt8) (x y : Nat) : (lkAb W pix x y).length = 8 := by simp [lkAb]
theorem lkLf_length (W : Nat) (pix : List UInt8) (x y : Nat) : (lkLf W pix x y).length = 8 := by simp [lkLf]
theorem lkTo_zero (W : Nat) (pix : List UInt8) (x y : Nat) : lkTo W pix x y 0 = List.replicate 8 128 := by unfold lkTo; simp; rfl
theorem lkTo_all {W x y : Nat} {pix : List UInt8} (hx : 0 < x) : lkTo W pix x y 8 = lkLf W pix x y := by
  unfold lkTo lkLf
  refine List.map_congr_left fun i hi => ?_
  rw [if_pos (List.mem_range.1 hi), if_pos hx]
theorem lkTo_set (W : Nat) (pix : List UInt8) (x y k : Nat) : (lkTo W pix x y k).set k (pix.getD (y * W + x + k * W - 1) 0) = lkTo W pix x y (k + 1) := by
  unfold lkTo
  refine List.ext_getElem (by simp) fun i h1 h2 => ?_
  simp only [List.getElem_set, List.getElem_map, List.getElem_range]
  by_cases e : k = i
  · subst e; simp
  · rw [if_neg e]
    by_cases h : i < k
    · rw [if_pos h, if_pos (by omega)]
    · rw [if_neg h, if_neg (by omega)]
theorem lk_idx {m0 x W n k kW ix : Nat} (h1 : m0 + 8 * W ≤ n) (h2 : x + 8 ≤ W) (hk : k < 8) (hkW : kW = k * W) (hx : 0 < x) (hn : n ≤ 16777216) (hix : ix = m0 + x + kW - 1) :
    ix < n ∧ wrap64 (wrap64 ((m0 : Int) + (x : Int) + wrap64 ((k : Int) * (W : Int))) - 1) = (ix : Int) := by
  have hkl : kW ≤ 7 * W := by rw [hkW]; exact Nat.mul_le_mul_right W (by omega)
  refine ⟨by omega, ?_⟩
  rw [show (k : Int) * (W : Int) = (kW : Int) by rw [hkW]; simp, IntWalk.wrap64_in (kW : Int) ⟨by omega, by omega⟩, IntWalk.wrap64_in ((m0 : Int) + (x : Int) + (kW : Int)) ⟨by omega, by omega⟩, IntWalk.wrap64_in _ ⟨by omega, by omega⟩]
  omega
theorem lk_cor {m0 x W n : Nat} (h1 : m0 + 8 * W ≤ n) (h2 : x + 8 ≤ W) (hx : 0 < x) (hW : W ≤ m0) : m0 + x - W - 1 < n ∧ (m0 : Int) + (x : Int) - (W : Int) - 1 = ((m0 + x - W - 1 : Nat) : Int) := by omega
theorem splice_all {cur cells : List Value} (h : cells.length = cur.length) : splice cur 0 cells = cells := by
  unfold splice
  rw [List.drop_eq_nil_of_le (by omega)]
  simp
theorem arL_one (ab lf : List UInt8) (co : UInt8) : ∀ u ∈ arL ab lf co, u.oneCell' = true := fun u hu => by
  unfold arL at hu
  rcases List.mem_cons.1 hu with rfl | hu
  · rfl
  · rcases List.mem_append.1 hu with hu | hu
    · exact u8s_one _ u hu
    · rcases List.mem_append.1 hu with hu | hu
      · exact u8s_one _ u hu
      · rw [List.mem_singleton.1 hu]; rfl
def LkRel2 (w : World) (a : Nat) (W : Nat) (pix : List UInt8) (x y : Nat) (rest : List Ent) (s54 : Value) (wr : World) : Prop :=
  ∃ k : Nat, k ≤ 8 ∧ s54 = .int .i64 (k : Int) ∧ Sat (fun _ => False) w wr (⟨a, 223, arV (lkAb W pix x y) (lkTo W pix x y k) 128⟩ :: rest) []
def LkRel1 (w : World) (pb : Nat) (pv : Array Value) (s16 : Value) (wr : World) : Prop :=
  ∃ k : Nat, k ≤ 8 ∧ s16 = .int .i64 (k : Int) ∧ Sat (fun _ => False) w wr [⟨pb + 1 + 1, 223, arV (fillL (fun _ => 128) 8 k) (fillL (fun _ => 128) 8 k) 128⟩, ⟨pb + 1, 223, #[.int .i64 0, .int .u8 0, .int .u8 0, .int .u8 0, .int .u8 0, .int .u8 0, .int .u8 0, .int .u8 0, .int .u8 0, .int .u8 0, .int .u8 0, .int .u8 0, .int .u8 0, .int .u8 0, .int .u8 0, .int .u8 0, .int .u8 0, .int .u8 0]⟩, ⟨pb, 35, pv⟩] []
set_option maxRecDepth 100000 in
set_option maxHeartbeats 4000000 in
theorem iLook (w : World) (W H : Nat) (A : Option Addr) (n c : Nat) (pix : List UInt8) (h : sidesB W H = true) (hn : n = W * H) (hin : BytesIn w A n c pix) (hnc : n ≤ c) (x y : Nat) (hx : x + 8 ≤ W) (hy : y + 8 ≤ H) :
    Calls Tryz.prog 176 #[.agg #[.int .i64 (W : Int), .int .i64 (H : Int), .slice A n c], .int .i64 (x : Int), .int .i64 (y : Int), .int .i64 8] w fun e w' => e = .returned (.agg (arV (lkAb W pix x y) (lkLf W pix x y) (lkCo W pix x y))) ∧ Mod (fun _ => False) w w' := by
  obtain ⟨ha, hW1, hW2, hH1, hH2, hn1⟩ := area_le h
  obtain ⟨m0, hm0⟩ : ∃ m0, m0 = y * W := ⟨_, rfl⟩
  have hm1 : m0 + 8 * W ≤ n := by
    rw [hm0, hn, Nat.mul_comm W H, ← Nat.add_mul]
    exact Nat.mul_le_mul_right W hy
  rw [← hn] at ha hn1
  have hmw : wrap64 ((y : Int) * (W : Int)) = (m0 : Int) := by
    rw [show (y : Int) * (W : Int) = (m0 : Int) by rw [hm0]; simp]
    exact IntWalk.wrap64_in _ ⟨by omega, by omega⟩
  have hyW : 0 < y → W ≤ m0 := fun h0 => by rw [hm0]; exact Nat.le_mul_of_pos_left W h0
  obtain ⟨b, off, hA, hb, hcell⟩ := hin.place (by omega)
  subst hA
  have HI := Lib.hid (And.intro hin (And.intro hcell (And.intro hmw (And.intro hm0 (And.intro hyW hb)))))
  clear h hn hin hmw hm0 hyW hcell hb
  have h0 := ((((Sat.nil (fun _ => False) w).alloc 35 #[.int .i64 (W : Int), .int .i64 (H : Int), .slice (some ⟨b, off, none⟩) n c] rfl).alloc (g := w.heap.size + 1) 223 (#[.int .i64 0, .int .u8 0, .int .u8 0, .int .u8 0, .int .u8 0, .int .u8 0, .int .u8 0, .int .u8 0, .int .u8 0, .int .u8 0, .int .u8 0, .int .u8 0, .int .u8 0, .int .u8 0, .int .u8 0, .int .u8 0, .int .u8 0, .int .u8 0]) (by simp)).alloc (g := w.heap.size + 1 + 1) 223 #[.int .i64 8, .int .u8 0, .int .u8 0, .int .u8 0, .int .u8 0, .int .u8 0, .int .u8 0, .int .u8 0, .int .u8 0, .int .u8 0, .int .u8 0, .int .u8 0, .int .u8 0, .int .u8 0, .int .u8 0, .int .u8 0, .int .u8 0, .int .u8 128] (by simp))
  have H0 := Lib.hid h0
  clear h0
  go_enter Tryz.func176, Tryz.ntmps176
  go_wp2_with fail
  go_loopw [16] (LkRel1 w w.heap.size #[.int .i64 (W : Int), .int .i64 (H : Int), .slice (some ⟨b, off, none⟩) n c]) (fun s _ => 8 - (intOf s).toNat)
  case atStart => exact ⟨0, by omega, rfl, H0.out⟩
  case round =>
    clear H0
    obtain ⟨k, hk, rfl, HS⟩ := hrel
    have hb0 := HS.own_ 0 rfl
    dsimp only at hb0
    have af := hb0.frozen
    have al := hb0.lt
    have HK := Lib.hid HS
    clear HS
    by_cases hlt : k < 8
    · have c0 := ar_above hb0 (fillL_length _ _ _) hlt
      have c1 := ar_left hb0 (fillL_length _ _ _) (fillL_length _ _ _) hlt
      clear hb0
      have d1 : decide ((k : Int) < 8) = true := decide_eq_true (by omega)
      go_wp2_with fail
      go_roundw
      case rel =>
        refine ⟨k + 1, by omega, by go_num, (HK.out.put (g := w.heap.size + 1 + 1) (i := 1 + k) (u := .int .u8 ((128 : Nat) : Int)) (.here (ar_set_above (fillL_length _ _ _) hlt (by omega)))).put (g := w.heap.size + 1 + 1) (i := 9 + k) (u := .int .u8 ((128 : Nat) : Int)) (.here ?_)⟩
        rw [ar_set_left (by rw [List.length_set, fillL_length]) (fillL_length _ _ _) hlt (by omega)]
        have e := fillL_set (fun _ => 128) 8 k
        rw [show UInt8.ofNat 128 = (fun _ : Nat => (128 : UInt8)) k from rfl, e]
      case measure => simp [intOf]; omega
    · obtain rfl : k = 8 := by omega
      clear hb0
      obtain ⟨pc, pf⟩ := (HK.out.own_ 2 rfl).both
      go_upto_if 33 with (fail)
      rw [HI.out.2.2.1, IntWalk.wrap64_in ((m0 : Int) + (x : Int)) ⟨by omega, by omega⟩]
      go_cut [] (fun wx => Sat (fun _ => False) w wx [⟨w.heap.size + 1 + 1, 223, arV (lkAb W pix x y) (List.replicate 8 128) 128⟩, ⟨w.heap.size + 1, 223, #[.int .i64 0, .int .u8 0, .int .u8 0, .int .u8 0, .int .u8 0, .int .u8 0, .int .u8 0, .int .u8 0, .int .u8 0, .int .u8 0, .int .u8 0, .int .u8 0, .int .u8 0, .int .u8 0, .int .u8 0, .int .u8 0, .int .u8 0, .int .u8 0]⟩, ⟨w.heap.size, 35, #[.int .i64 (W : Int), .int .i64 (H : Int), .slice (some ⟨b, off, none⟩) n c]⟩] [])
      case first =>
        by_cases hy0 : 0 < y
        rotate_left
        · have d1 : decide (0 < (y : Int)) = false := decide_eq_false (by omega)
          go_wp2_with fail
          go_meet
          have e : lkAb W pix x y = List.replicate 8 128 := by unfold lkAb; simp [hy0]; rfl
          rw [e]
          exact HK.out
        · have d1 : decide (0 < (y : Int)) = true := decide_eq_true (by omega)
          have hWm := HI.out.2.2.2.2.1 hy0
          obtain ⟨lo, hlo⟩ : ∃ lo, lo = m0 + x - W := ⟨_, rfl⟩
          have p0 := pc 0
          have p2 := pc 2
          have e1 : IntKind.i64.wrap ((m0 : Int) + (x : Int) - (W : Int)) = (lo : Int) := by rw [IntWalk.i64_in _ ⟨by omega, by omega⟩]; omega
          have e2 : IntKind.i64.wrap ((lo : Int) + 8) = (lo : Int) + 8 := IntWalk.i64_in _ ⟨by omega, by omega⟩
          have q1 : (0 : Int) ≤ (lo : Int) := by omega
          have q2 : (lo : Int) ≤ (lo : Int) + 8 := by omega
          have q3 : (lo : Int) + 8 ≤ (c : Int) := by omega
          have q4 : ¬ c = lo := by omega
          have hlow : lo + 8 ≤ n := by omega
          have HL := Lib.hid (And.intro hlo (And.intro e1 e2))
          clear hlo pc e1 e2
          go_upto_region 9 with (fail)
          have e1 := HL.out.2.1
          have e2 := HL.out.2.2
          refine wp_region_plan [16] [] [0, 1, 2, 3, 4, 5, 6, 7, 8, 9, 10, 11, 12, 13, 14, 15, 16] (by kernel_rfl) (by kernel_rfl) (fun _ _ _ d _ h => by cases d <;> exact h) ?_
          iterate 16 (refine plan_still rfl rfl (fun K hK => ?_); go_simp; refine hK _ ?_; clear hK K)
          have hsrc := ((HI.out.1.quiet HK.out.mod).quiet ((Mod.refl (fun _ => False) wr).drew)).part hlow
          have hdst : Blk wr.drew (w.heap.size + 1 + 1) 223 (arL (fillL (fun _ => 128) 8 8) (fillL (fun _ => 128) 8 8) 128).toArray := (HK.out.own_ 0 rfl).drew
          have hlen : ((pix.drop lo).take 8).length = 8 := by have := HI.out.1.1; simp; omega
          have HY := Lib.hid (And.intro hsrc (And.intro hdst hlen))
          clear hsrc hdst hlen
          refine plan_loud rfl rfl (fun K hK => ?_)
          refine step_copy_blk rfl (.tmp 36) (.tmp 49) _ _ rfl 5 Tryz.underlying22 (by kernel_rfl) (some ⟨w.heap.size + 1 + 1, 1, none⟩) 8 8 (some ⟨b, off + lo, none⟩) 8 (c - lo) _ (by simp [Act.eval]) (by simp [Act.eval]; omega) HY.out.1 (w.heap.size + 1 + 1) 1 _ 223 HY.out.2.1 8 rfl (fun _ => rfl) (by simp [arL, u8s, fillL]) (u8s_one _) ?_
          intro w5 hb5 hm5
          have HB5 := Lib.hid (And.intro hb5 hm5)
          clear hb5 hm5
          refine hK _ _ ?_
          clear hK K
          refine plan_done ?_
          clear e1 e2
          go_wp2_with fail
          go_meet
          have hb5 := HB5.out.1
          rw [List.take_of_length_le (by rw [u8s_length, HY.out.2.2]; exact Nat.le_refl _), ar_splice (fillL_length _ _ _) HY.out.2.2, lkAb_eq hy0 HI.out.2.2.2.1 HL.out.1 (by have := HI.out.1.1; omega)] at hb5
          exact Sat.turn HB5.out.2 HK.out.drew hb5 .here
      case rest =>
        clear pc pf HK af al
        obtain ⟨pc, pf⟩ := (hcut.own_ 2 rfl).both
        have HC := Lib.hid hcut
        clear hcut
        go_upto_if 52 with (fail)
        go_cut [] (fun wx => Sat (fun _ => False) w wx [⟨w.heap.size + 1 + 1, 223, arV (lkAb W pix x y) (lkLf W pix x y) 128⟩, ⟨w.heap.size + 1, 223, #[.int .i64 0, .int .u8 0, .int .u8 0, .int .u8 0, .int .u8 0, .int .u8 0, .int .u8 0, .int .u8 0, .int .u8 0, .int .u8 0, .int .u8 0, .int .u8 0, .int .u8 0, .int .u8 0, .int .u8 0, .int .u8 0, .int .u8 0, .int .u8 0]⟩, ⟨w.heap.size, 35, #[.int .i64 (W : Int), .int .i64 (H : Int), .slice (some ⟨b, off, none⟩) n c]⟩] [])
        case first =>
          by_cases hx0 : 0 < x
          rotate_left
          · have d1 : decide (0 < (x : Int)) = false := decide_eq_false (by omega)
            go_wp2_with fail
            go_meet
            have e : lkLf W pix x y = List.replicate 8 128 := by unfold lkLf; simp [hx0]; rfl
            rw [e]
            exact HC.out
          · have d1 : decide (0 < (x : Int)) = true := decide_eq_true (by omega)
            go_wp2_with fail
            go_loopw [54] (LkRel2 w (w.heap.size + 1 + 1) W pix x y [⟨w.heap.size + 1, 223, #[.int .i64 0, .int .u8 0, .int .u8 0, .int .u8 0, .int .u8 0, .int .u8 0, .int .u8 0, .int .u8 0, .int .u8 0, .int .u8 0, .int .u8 0, .int .u8 0, .int .u8 0, .int .u8 0, .int .u8 0, .int .u8 0, .int .u8 0, .int .u8 0]⟩, ⟨w.heap.size, 35, #[.int .i64 (W : Int), .int .i64 (H : Int), .slice (some ⟨b, off, none⟩) n c]⟩]) (fun s _ => 8 - (intOf s).toNat)
            case atStart => exact ⟨0, by omega, rfl, by rw [lkTo_zero]; exact HC.out⟩
            case round =>
              clear HC pc pf d1
              rename World => w6
              obtain ⟨k, hk, rfl, HS⟩ := hrel
              by_cases hlt : k < 8
              · have d1 : decide ((k : Int) < 8) = true := decide_eq_true (by omega)
                obtain ⟨pc, pf⟩ := (HS.own_ 2 rfl).both
                have hb0 := HS.own_ 0 rfl
                dsimp only at hb0
                have af := hb0.frozen
                have al := hb0.lt
                have c1 := ar_left hb0 (lkAb_length _ _ _ _) (lkTo_length _ _ _ _ _) hlt
                clear hb0
                obtain ⟨kW, hkW⟩ : ∃ kW, kW = k * W := ⟨_, rfl⟩
                obtain ⟨ix, hix⟩ : ∃ ix, ix = m0 + x + kW - 1 := ⟨_, rfl⟩
                obtain ⟨hixn, he⟩ := lk_idx hm1 hx hlt hkW hx0 ha hix
                have q1 : (0 : Int) ≤ (ix : Int) := Int.natCast_nonneg _
                have q2 : (ix : Int) < (n : Int) := Int.ofNat_lt.2 hixn
                have kp : w6.cell? ⟨b, off + ix, none⟩ = some (.int .u8 ((pix.getD ix 0).toNat : Int)) := (World.cell?_of_block (HS.mod.block b HI.out.2.2.2.2.2 (fun h => h))).trans (HI.out.2.1 ix hixn)
                have x0 : (pix.getD ix 0).toNat < 256 := UInt8.toNat_lt _
                have hset := lkTo_set W pix x y k
                rw [← hkW, ← HI.out.2.2.2.1, ← hix] at hset
                have HS5 := Lib.hid (And.intro HS (And.intro hset (And.intro hix hkW)))
                clear HS hset hix hkW
                generalize (pix.getD ix 0) = px at *
                go_wp2_with fail
                go_roundw
                case rel =>
                  refine ⟨k + 1, by omega, by go_num, HS5.out.1.put (.here ?_)⟩
                  rw [ar_set_left (lkAb_length _ _ _ _) (lkTo_length _ _ _ _ _) hlt x0, UInt8.ofNat_toNat, HS5.out.2.1]
                case measure => simp [intOf]; omega
              · obtain rfl : k = 8 := by omega
                go_wp2_with fail
                go_meet
                rw [← lkTo_all hx0]
                exact HS
        case rest =>
          clear pc pf HC
          have HC := Lib.hid hcut
          clear hcut
          rename World => w7
          by_cases hxy : 0 < x ∧ 0 < y
          · have d1 : decide (0 < (x : Int)) = true := decide_eq_true (by omega)
            have d2 : decide (0 < (y : Int)) = true := decide_eq_true (by omega)
            obtain ⟨pc, pf⟩ := (HC.out.own_ 2 rfl).both
            have hb0 := HC.out.own_ 0 rfl
            dsimp only at hb0
            have af := hb0.frozen
            have al := hb0.lt
            have c1 := ar_corner hb0 (lkAb_length _ _ _ _) (lkLf_length _ _ _ _)
            clear hb0
            obtain ⟨hixn, he⟩ := lk_cor hm1 hx hxy.1 (HI.out.2.2.2.2.1 hxy.2)
            obtain ⟨ix, hix⟩ : ∃ ix, ix = m0 + x - W - 1 := ⟨_, rfl⟩
            rw [← hix] at hixn he
            have kp : w7.cell? ⟨b, off + ix, none⟩ = some (.int .u8 ((pix.getD ix 0).toNat : Int)) := (World.cell?_of_block (HC.out.mod.block b HI.out.2.2.2.2.2 (fun h => h))).trans (HI.out.2.1 ix hixn)
            have x0 : (pix.getD ix 0).toNat < 256 := UInt8.toNat_lt _
            have hco : lkCo W pix x y = pix.getD ix 0 := by unfold lkCo; rw [if_pos hxy, ← HI.out.2.2.2.1, ← hix]
            have q1 : (0 : Int) ≤ (ix : Int) := Int.natCast_nonneg _
            have q2 : (ix : Int) < (n : Int) := Int.ofNat_lt.2 hixn
            have HO := Lib.hid hco
            obtain ⟨hx1, hy1⟩ := hxy
            clear hco hix
            generalize (pix.getD ix 0) = px at *
            go_upto_region 18 with (fail)
            have HT := HC.out.put (g := w.heap.size + 1 + 1) (i := 17) (u := .int .u8 (px.toNat : Int)) (.here (ar_set_corner (lkAb_length _ _ _ _) (lkLf_length _ _ _ _) x0))
            rw [UInt8.ofNat_toNat] at HT
            rw [← HO.out] at HT ⊢
            have HT := Lib.hid HT
            clear c1 kp q1 q2 he af al pc pf
            go_wp2_with (first | (refine wpList_load_row rfl 223 (.tmp 9) rfl (w.heap.size + 1 + 1) rfl 223 (arV (lkAb W pix x y) (lkLf W pix x y) (lkCo W pix x y)) (0, 0) _ (HT.out.own_ 0 rfl) Tryz.underlying223 rfl (by kernel_rfl) ?_) | (refine wpList_store_part rfl 223 (.tmp 8) (.tmp 88) rfl (w.heap.size + 1) 0 (arL (lkAb W pix x y) (lkLf W pix x y) (lkCo W pix x y)) rfl rfl 223 _ (HT.out.own_ 1 rfl) (by kernel_rfl) (by simp [arL, u8s, lkAb, lkLf]) (arL_one _ _ _) ?_; intro w9 hb9 hm9; have HB9 := Lib.hid (And.intro hb9 hm9); clear hb9 hm9)); have hb9 := HB9.out.1; rw [splice_all (by simp [arL, u8s, lkAb, lkLf])] at hb9; exact bodyPost_ret (v := .agg (arV (lkAb W pix x y) (lkLf W pix x y) (lkCo W pix x y))) (results_cell_row rfl _ _ (w.heap.size + 1) 223 _ (0, 0) _ rfl hb9 Tryz.underlying223 rfl (by kernel_rfl)) rfl ⟨rfl, HT.out.mod.into HB9.out.2 (fun i e => .inr (by omega))⟩
          · have e : lkCo W pix x y = 128 := by unfold lkCo; rw [if_neg hxy]
            by_cases hx0 : 0 < x
            · have d1 : decide (0 < (x : Int)) = true := decide_eq_true (by omega)
              have d2 : decide (0 < (y : Int)) = false := decide_eq_false (by omega)
              go_upto_region 18 with (fail)
              have HT := HC.out
              rw [← e] at HT
              have HT := Lib.hid HT
              go_wp2_with (first | (refine wpList_load_row rfl 223 (.tmp 9) rfl (w.heap.size + 1 + 1) rfl 223 (arV (lkAb W pix x y) (lkLf W pix x y) (lkCo W pix x y)) (0, 0) _ (HT.out.own_ 0 rfl) Tryz.underlying223 rfl (by kernel_rfl) ?_) | (refine wpList_store_part rfl 223 (.tmp 8) (.tmp 88) rfl (w.heap.size + 1) 0 (arL (lkAb W pix x y) (lkLf W pix x y) (lkCo W pix x y)) rfl rfl 223 _ (HT.out.own_ 1 rfl) (by kernel_rfl) (by simp [arL, u8s, lkAb, lkLf]) (arL_one _ _ _) ?_; intro w9 hb9 hm9; have HB9 := Lib.hid (And.intro hb9 hm9); clear hb9 hm9)); have hb9 := HB9.out.1; rw [splice_all (by simp [arL, u8s, lkAb, lkLf])] at hb9; exact bodyPost_ret (v := .agg (arV (lkAb W pix x y) (lkLf W pix x y) (lkCo W pix x y))) (results_cell_row rfl _ _ (w.heap.size + 1) 223 _ (0, 0) _ rfl hb9 Tryz.underlying223 rfl (by kernel_rfl)) rfl ⟨rfl, HT.out.mod.into HB9.out.2 (fun i e => .inr (by omega))⟩
            · have d1 : decide (0 < (x : Int)) = false := decide_eq_false (by omega)
              go_upto_region 18 with (fail)
              have HT := HC.out
              rw [← e] at HT
              have HT := Lib.hid HT
              go_wp2_with (first | (refine wpList_load_row rfl 223 (.tmp 9) rfl (w.heap.size + 1 + 1) rfl 223 (arV (lkAb W pix x y) (lkLf W pix x y) (lkCo W pix x y)) (0, 0) _ (HT.out.own_ 0 rfl) Tryz.underlying223 rfl (by kernel_rfl) ?_) | (refine wpList_store_part rfl 223 (.tmp 8) (.tmp 88) rfl (w.heap.size + 1) 0 (arL (lkAb W pix x y) (lkLf W pix x y) (lkCo W pix x y)) rfl rfl 223 _ (HT.out.own_ 1 rfl) (by kernel_rfl) (by simp [arL, u8s, lkAb, lkLf]) (arL_one _ _ _) ?_; intro w9 hb9 hm9; have HB9 := Lib.hid (And.intro hb9 hm9); clear hb9 hm9)); have hb9 := HB9.out.1; rw [splice_all (by simp [arL, u8s, lkAb, lkLf])] at hb9; exact bodyPost_ret (v := .agg (arV (lkAb W pix x y) (lkLf W pix x y) (lkCo W pix x y))) (results_cell_row rfl _ _ (w.heap.size + 1) 223 _ (0, 0) _ rfl hb9 Tryz.underlying223 rfl (by kernel_rfl)) rfl ⟨rfl, HT.out.mod.into HB9.out.2 (fun i e => .inr (by omega))⟩
end Go.Proofs.YteppnjgfebcmjaaGreat
