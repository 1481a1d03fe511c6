/-
  The reference's planes: Lay.
-/
import Derived.Test.YteppnjgfebcmjaaGreatM24
import Derived.Test.YteppnjgfebcmjaaGreatM28
import Derived.Test.YteppnjgfebcmjaaGreatM21
import Derived.Test.YteppnjgfebcmjaaGreatM22
import Derived.Test.YteppnjgfebcmjaaGreatM20
namespace Go.Proofs.YteppnjgfebcmjaaGreat
open Go.RowKit

/-- The first i of r put into L from p on. -/
def rowTo (L : List UInt8) (p : Nat) (r : List UInt8) : Nat → List UInt8
  | 0 => L
  | i + 1 => (rowTo L p r i).set (p + i) (r.getD i 0)
theorem rowTo_length (L : List UInt8) (p : Nat) (r : List UInt8) : ∀ i, (rowTo L p r i).length = L.length
  | 0 => rfl
  | i + 1 => by unfold rowTo; rw [List.length_set, rowTo_length L p r i]
theorem rowTo_get (L : List UInt8) (p : Nat) (r : List UInt8) (h : p + r.length ≤ L.length) : ∀ i, i ≤ r.length → ∀ k, k < L.length → (rowTo L p r i)[k]? = if p ≤ k ∧ k < p + i then r[k - p]? else L[k]?
  | 0, _, k, hk => by rw [if_neg (by omega)]; rfl
  | i + 1, hi, k, hk => by
    unfold rowTo
    rw [List.getElem?_set, rowTo_get L p r h i (by omega) k hk]
    by_cases e : p + i = k
    · subst e
      rw [if_pos rfl, if_pos (by rw [rowTo_length]; exact hk), if_pos (by omega), List.getD_eq_getElem?_getD, show p + i - p = i by omega, List.getElem?_eq_getElem (by omega)]
      rfl
    · rw [if_neg e]
      by_cases h2 : p ≤ k ∧ k < p + i
      · rw [if_pos h2, if_pos (by omega)]
      · rw [if_neg h2, if_neg (by omega)]
theorem rowTo_all (L : List UInt8) (p : Nat) (r : List UInt8) (h : p + r.length ≤ L.length) : rowTo L p r r.length = splice L p r := by
  apply List.ext_getElem?
  intro k
  by_cases hk : k < L.length
  · rw [rowTo_get L p r h _ (Nat.le_refl _) k hk]
    unfold splice
    by_cases h1 : k < p
    · rw [if_neg (by omega), List.getElem?_append_left (by rw [List.length_take]; omega), List.getElem?_take, if_pos h1]
    · by_cases h2 : k < p + r.length
      · rw [if_pos (by omega), List.getElem?_append_right (by rw [List.length_take]; omega), List.getElem?_append_left (by rw [List.length_take]; omega), List.length_take, Nat.min_eq_left (by omega)]
      · rw [if_neg (by omega), List.getElem?_append_right (by rw [List.length_take]; omega), List.getElem?_append_right (by rw [List.length_take]; omega), List.getElem?_drop, List.length_take, Nat.min_eq_left (by omega)]
        congr 1
        omega
  · rw [List.getElem?_eq_none (by rw [rowTo_length]; omega), List.getElem?_eq_none (by unfold splice; simp; omega)]
/-- The memory while a block is laid. -/
structure LayT (w wr : World) (q r p b n k : Nat) (W H : Int) (A : Option Addr) (c : Nat) (cur : List UInt8) : Prop where
  sat : Sat (fun _ => False) w wr [⟨q, 35, #[.int .i64 W, .int .i64 H, .slice (some ⟨b, 0, none⟩) n k]⟩, ⟨r, 35, #[.int .i64 0, .int .i64 0, .slice none 0 0]⟩, ⟨p, 35, #[.int .i64 W, .int .i64 H, .slice A n c]⟩] []
  own : Bytes wr w.heap.size (.slice (some ⟨b, 0, none⟩) n k) cur
theorem LayT.drew {w wr : World} {q r p b n k : Nat} {W H : Int} {A : Option Addr} {c : Nat} {cur : List UInt8} (h : LayT w wr q r p b n k W H A c cur) : LayT w wr.drew q r p b n k W H A c cur := ⟨h.sat.drew, h.own.quiet (Mod.refl _ _).drew⟩
theorem LayT.put {w wr : World} {q r p b n k : Nat} {W H : Int} {A : Option Addr} {c : Nat} {cur : List UInt8} (h : LayT w wr q r p b n k W H A c cur) (i : Nat) (x : UInt8) : LayT w (wr.setCell ⟨b, i, none⟩ (.int .u8 (x.toNat : Int))) q r p b n k W H A c (cur.set i x) := by
  have hm : Mod (· = b) wr (wr.setCell ⟨b, i, none⟩ (.int .u8 (x.toNat : Int))) := (Mod.refl (· = b) wr).setCell (.inl rfl) _
  refine ⟨Sat.beside hm h.sat (fun j e => .inr (e ▸ h.own.low.1)) (fun e he hb => ?_), h.own.put i x⟩
  have hb' : e.g = b := hb
  have ht : e.t ≠ 5 := by
    simp at he
    rcases he with rfl | rfl | rfl <;> (dsimp only; decide)
  exact h.own.ne_ (h.sat.blk e (by simpa using he)) ht hb'.symm
def FLay1 (w : World) (q r p b n k : Nat) (W H : Nat) (A : Option Addr) (c x y : Nat) (l pix : List UInt8) (v : Value) (wr : World) : Prop :=
  ∃ j : Nat, j ≤ 8 ∧ v = .int .i64 (j : Int) ∧ LayT w wr q r p b n k (W : Int) (H : Int) A c (layTo W x y l pix j)
def FLay2 (w : World) (q r p b n k : Nat) (W H : Nat) (A : Option Addr) (c : Nat) (L row : List UInt8) (at_ : Nat) (v : Value) (wr : World) : Prop :=
  ∃ i : Nat, i ≤ 8 ∧ v = .int .i64 (i : Int) ∧ LayT w wr q r p b n k (W : Int) (H : Int) A c (rowTo L at_ row i)

set_option maxRecDepth 100000 in
set_option maxHeartbeats 4000000 in
theorem fPLay (w : World) (W H : Nat) (A : Option Addr) (n c : Nat) (pix : List UInt8) (h : sidesB W H = true) (hn : n = W * H) (hs : n ≤ 1048576) (hin : BytesIn w A n c pix) (B : Option Addr) (bc : Nat) (l : List UInt8) (hbin : BytesIn w B 64 bc l) (x y : Nat) (hx : x + 8 ≤ W) (hy : y + 8 ≤ H) :
    Calls Tryz.prog 114 #[.agg #[.int .i64 (W : Int), .int .i64 (H : Int), .slice A n c], .int .i64 (x : Int), .int .i64 (y : Int), .int .i64 8, .slice B 64 bc] w fun e w' => ∃ b k, e = .returned (.tuple #[.agg #[.int .i64 (W : Int), .int .i64 (H : Int), .slice (some ⟨b, 0, none⟩) n k], .int .i64 0]) ∧ Bytes w' w.heap.size (.slice (some ⟨b, 0, none⟩) n k) (layTo W x y l pix 8) ∧ Mod (fun _ => False) w w' := by
  obtain ⟨ha, hW1, hW2, hH1, hH2, hn1⟩ := area_le h
  rw [← hn] at hn1 ha
  obtain ⟨lb, lo, hlB, hlb, hlc⟩ := hbin.place (by omega)
  subst hlB
  have hll := hbin.1
  have hpl := hin.1
  have HS := ((Sat.nil (fun _ => False) w).alloc 35 #[.int .i64 (W : Int), .int .i64 (H : Int), .slice A n c] rfl).alloc (g := w.heap.size + 1) 35 #[.int .i64 0, .int .i64 0, .slice none 0 0] (by simp)
  have H0 := Lib.hid (And.intro HS (And.intro h (And.intro hn (And.intro hin (And.intro hlc hlb)))))
  have HL := Lib.hid (And.intro hll hpl)
  clear HS h hn hin hlc hlb hbin hll hpl
  go_enter Tryz.func114, Tryz.ntmps114
  go_wp2_with fail
  refine (fPRight _ W H A n c H0.out.2.1 H0.out.2.2.1).mono ?_
  rintro e w1 ⟨rfl, hm1⟩
  have hS1 := Sat.after hm1 H0.out.1
  obtain ⟨pc, pf⟩ := (hS1.own_ 1 rfl).both
  have H1 := Lib.hid hS1
  clear hm1 hS1
  go_wp2_with fail
  refine (fPCopy _ (W : Int) (H : Int) A n c pix (by omega) hs (H0.out.2.2.2.1.quiet H1.out.mod)).mono ?_
  rintro e w2 ⟨b, k, rfl, hb2, hm2⟩
  have hS2 := (H1.out.quiet hm2).alloc 35 #[.int .i64 (W : Int), .int .i64 (H : Int), .slice (some ⟨b, 0, none⟩) n k] rfl
  have hb3 : Bytes (w2.alloc (.cells #[.int .i64 (W : Int), .int .i64 (H : Int), .slice (some ⟨b, 0, none⟩) n k] 35)) w.heap.size (.slice (some ⟨b, 0, none⟩) n k) pix := by
    have hq := hb2.quiet ((Mod.refl (fun _ => False) w2).alloc (.cells #[.int .i64 (W : Int), .int .i64 (H : Int), .slice (some ⟨b, 0, none⟩) n k] 35))
    obtain ⟨e1, e2⟩ := hq
    refine ⟨e1, e2.imp id ?_⟩
    rintro ⟨g, cap, cur, a1, a2, a3⟩
    exact ⟨g, cap, cur, a1, Nat.le_trans H1.out.mod.size a2, a3⟩
  obtain ⟨q, hq⟩ : ∃ q, q = w2.heap.size := ⟨_, rfl⟩
  rw [← hq] at hS2
  have H2 := Lib.hid (LayT.mk hS2 hb3)
  clear hb2 hb3 hm2 hS2 pc pf H1
  go_wp2_with fail
  rw [← hq]
  generalize w2.alloc (.cells #[.int .i64 (W : Int), .int .i64 (H : Int), .slice (some ⟨b, 0, none⟩) n k] 35) = w3 at *
  clear hq
  go_loopw [14] (FLay1 w q (w.heap.size + 1) w.heap.size b n k W H A c x y l pix) (fun i _ => 8 - (intOf i).toNat)
  case atStart => exact ⟨0, by omega, rfl, H2.out⟩
  case round =>
    clear H2
    rename World => wr
    obtain ⟨j, hj, rfl, hT⟩ := hrel
    by_cases hlt : j < 8
    · have d1 : decide ((j : Int) < 8) = true := decide_eq_true (by omega)
      have hlen : (layTo W x y l pix j).length = n := by rw [H0.out.2.2.1]; exact layTo_length hx hy (HL.out.2.trans H0.out.2.2.1) HL.out.1 j hj
      have hrl := lay_row HL.out.1 hlt
      have hli := lay_in hx hy hlt
      rw [← H0.out.2.2.1] at hli
      obtain ⟨mW, hmW⟩ : ∃ mW, mW = (y + j) * W := ⟨_, rfl⟩
      obtain ⟨L, hL⟩ : ∃ L, L = layTo W x y l pix j := ⟨_, rfl⟩
      obtain ⟨row, hrow⟩ : ∃ row, row = (l.drop (j * 8)).take 8 := ⟨_, rfl⟩
      rw [← hL] at hlen hT
      rw [← hrow] at hrl
      rw [← hmW] at hli
      have hst : layTo W x y l pix (j + 1) = rowTo L (mW + x) row 8 := by
        rw [← hrl, rowTo_all L (mW + x) row (by omega), hL, hrow, hmW]
        rfl
      have HT := Lib.hid hT
      have HK := Lib.hid (And.intro hst (And.intro hmW (And.intro hrow (And.intro hrl hlen))))
      clear hst hmW hrow hrl hlen hT hL
      go_wp2_with fail
      go_loopw [15] (FLay2 w q (w.heap.size + 1) w.heap.size b n k W H A c L row (mW + x)) (fun i _ => 8 - (intOf i).toNat)
      case atStart => exact ⟨0, by omega, rfl, HT.out⟩
      case round =>
        clear HT
        rename World => w6
        obtain ⟨i, hi, rfl, hT⟩ := hrel
        have HT := Lib.hid hT
        clear hT
        by_cases hli2 : i < 8
        · have d2 : decide ((i : Int) < 8) = true := decide_eq_true (by omega)
          go_wp2_with fail
          refine (fShifted _ (x : Int) (i : Int) (by omega) (by omega)).mono ?_
          rintro e w7 ⟨rfl, rfl⟩
          go_wp2_with fail
          refine (fShifted _ (y : Int) (j : Int) (by omega) (by omega)).mono ?_
          rintro e w7 ⟨rfl, rfl⟩
          obtain ⟨pc, pf⟩ := (HT.out.sat.own_ 2 rfl).both
          have t1 : decide (0 ≤ (x : Int) + (i : Int)) = true := decide_eq_true (by omega)
          have t2 : decide ((x : Int) + (i : Int) < (W : Int)) = true := decide_eq_true (by omega)
          have t3 : decide (0 ≤ (y : Int) + (j : Int)) = true := decide_eq_true (by omega)
          have t4 : decide ((y : Int) + (j : Int) < (H : Int)) = true := decide_eq_true (by omega)
          clear pf
          go_upto_region 16 with (fail)
          clear pc t1 t2 t3 t4
          have hD := HT.out.drew
          obtain ⟨pc, pf⟩ := (hD.sat.own_ 2 rfl).both
          obtain ⟨qc, qf⟩ := (hD.sat.own_ 0 rfl).both
          obtain ⟨m8, hm8⟩ : ∃ m8, m8 = j * 8 := ⟨_, rfl⟩
          obtain ⟨m, hm⟩ : ∃ m, m = m8 + i := ⟨_, rfl⟩
          obtain ⟨v, hv⟩ : ∃ v : UInt8, v = l.getD (j * 8 + i) 0 := ⟨_, rfl⟩
          rw [← hm8, ← hm] at hv
          have lc : w6.drew.cell? ⟨lb, lo + m, none⟩ = some (.int .u8 (v.toNat : Int)) := by
            rw [hv]
            exact (World.cell?_of_block (hD.sat.mod.block lb H0.out.2.2.2.2.2 (fun h => h))).trans (H0.out.2.2.2.2.1 m (by omega))
          have hrv : row.getD i 0 = v := by
            rw [HK.out.2.2.1, hv, hm, hm8, List.getD_eq_getElem?_getD, List.getD_eq_getElem?_getD, List.getElem?_take, if_pos hli2, List.getElem?_drop]
          have hix : mW + x + i < n := by omega
          obtain ⟨ix, hixe⟩ : ∃ ix, ix = mW + x + i := ⟨_, rfl⟩
          rw [← hixe] at hix
          have hln : (rowTo L (mW + x) row i).length = n := (rowTo_length _ _ _ _).trans HK.out.2.2.2.2
          have bc_ : w6.drew.cell? ⟨b, ix, none⟩ = some (.int .u8 (((rowTo L (mW + x) row i).getD ix 0).toNat : Int)) := hD.own.cell ix (by rw [hln]; exact hix)
          have bf := hD.own.frozen ix
          have bl := hD.own.low.2
          generalize ((rowTo L (mW + x) row i).getD ix 0).toNat = old at *
          have e1 : IntKind.i64.wrap (((y : Int) + (j : Int)) * (W : Int)) = (mW : Int) := by
            rw [show ((y : Int) + (j : Int)) * (W : Int) = (mW : Int) by rw [HK.out.2.1]; simp]
            exact IntWalk.i64_in _ ⟨by omega, by omega⟩
          have e2 : IntKind.i64.wrap ((mW : Int) + ((x : Int) + (i : Int))) = (ix : Int) := by
            rw [IntWalk.i64_in _ ⟨by omega, by omega⟩]
            omega
          have q1 : (0 : Int) ≤ (ix : Int) := by omega
          have q2 : (ix : Int) < (n : Int) := by omega
          have e3 : IntKind.i64.wrap ((j : Int) * 8) = (m8 : Int) := by rw [IntWalk.i64_in _ ⟨by omega, by omega⟩]; omega
          have e4 : IntKind.i64.wrap ((m8 : Int) + (i : Int)) = (m : Int) := by rw [IntWalk.i64_in _ ⟨by omega, by omega⟩]; omega
          have q3 : (0 : Int) ≤ (m : Int) := by omega
          have q4 : (m : Int) < 64 := by omega
          clear hm hm8
          have HB := Lib.hid (And.intro hD (And.intro hrv hixe))
          clear hD hrv hixe hln hv
          refine wp_region_planS [17] [] (0 :: 1 :: 2 :: 3 :: 4 :: 5 :: 6 :: 7 :: 8 :: 9 :: 10 :: 11 :: 12 :: 13 :: 14 :: 15 :: 16 :: 17 :: []) (fun _ => True) (by kernel_rfl) (by kernel_rfl) (fun _ _ _ d _ h => by cases d <;> exact h) trivial ?_
          iterate 17 (refine planS_still rfl rfl (fun K hK => ?_); go_simp; refine hK _ ?_; clear hK K)
          refine planS_loud rfl rfl (fun K hK => ?_)
          go_simp
          refine hK _ _ trivial ?_
          clear hK K e1 e2 e3 e4
          refine planS_done ?_
          go_wp2_with fail
          go_roundw
          case rel =>
            refine ⟨i + 1, by omega, by go_num, ?_⟩
            have h := HB.out.1.put ix v
            rw [HB.out.2.2] at h
            show LayT _ _ _ _ _ _ _ _ _ _ _ _ ((rowTo L (mW + x) row i).set (mW + x + i) (row.getD i 0))
            rw [HB.out.2.1, HB.out.2.2]
            exact h
          case measure => simp [intOf]; omega
        · obtain rfl : i = 8 := by omega
          go_wp2_with fail
          go_roundw
          case rel => exact ⟨j + 1, by omega, by go_num, by rw [HK.out.1]; exact HT.out⟩
          case measure => simp [intOf]; omega
    · obtain rfl : j = 8 := by omega
      obtain ⟨qc, qf⟩ := (hT.sat.own_ 0 rfl).both
      obtain ⟨rc, rf⟩ := (hT.sat.own_ 1 rfl).both
      have rl := (hT.sat.own_ 1 rfl).lt
      have HT := Lib.hid hT
      clear hT
      go_wp2_with fail
      have hr := HT.out.own.ne_ (HT.out.sat.own_ 1 rfl) (show 35 ≠ 5 by decide)
      dsimp only at hr
      have HE := ((HT.out.sat.put (g := w.heap.size + 1) (i := 0) (u := .int .i64 (W : Int)) (.there (.here rfl))).put (g := w.heap.size + 1) (i := 1) (u := .int .i64 (H : Int)) (.there (.here rfl))).put (g := w.heap.size + 1) (i := 2) (u := .slice (some ⟨b, 0, none⟩) n k) (.there (.here rfl))
      have hB := ((HT.out.own.far (p := ⟨w.heap.size + 1, 0, none⟩) hr (.int .i64 (W : Int))).far (p := ⟨w.heap.size + 1, 1, none⟩) hr (.int .i64 (H : Int))).far (p := ⟨w.heap.size + 1, 2, none⟩) hr (.slice (some ⟨b, 0, none⟩) n k)
      exact bodyPost_ret (v := .tuple #[.agg #[.int .i64 (W : Int), .int .i64 (H : Int), .slice (some ⟨b, 0, none⟩) n k], .int .i64 0]) (by simp [results, Tryz.results114, go_sem, rc]) rfl ⟨b, k, rfl, hB, HE.mod⟩
end Go.Proofs.YteppnjgfebcmjaaGreat

/-
  The reference's deblock: one line made smooth.
-/
namespace Go.Proofs.YteppnjgfebcmjaaGreat
open Go.RowKit

theorem quiet_fLine (w : World) (a b c d q : Nat) (ha : a < 256) (hb : b < 256) (hc : c < 256) (hd : d < 256) (hq : q ≤ 31) (n : Nat) :
    Calls Tryz.prog 151 #[.int .u8 (a : Int), .int .u8 (b : Int), .int .u8 (c : Int), .int .u8 (d : Int), .int .i64 (q : Int)] (w.drewN n)
      fun e w' => e = .returned (.tuple #[.int .u8 (((lineN a b c d q).1 : Nat) : Int), .int .u8 (((lineN a b c d q).2 : Nat) : Int)]) ∧ w' = w.drewN n := (fLine _ a b c d q ha hb hc hd hq).mono fun _ _ ⟨a, b⟩ => ⟨a, b.symm⟩
theorem Bytes.putN {w : World} {B b n c : Nat} {l : List UInt8} (h : Bytes w B (.slice (some ⟨b, 0, none⟩) n c) l) (i v : Nat) (hv : v < 256) : Bytes (w.setCell ⟨b, i, none⟩ (.int .u8 (v : Int))) B (.slice (some ⟨b, 0, none⟩) n c) (l.set i (UInt8.ofNat v)) := by
  have h1 := h.put i (UInt8.ofNat v)
  rwa [UInt8.toNat_ofNat', Nat.mod_eq_of_lt hv] at h1
set_option maxRecDepth 100000 in
set_option maxHeartbeats 2000000 in
theorem fDone (w : World) (W H : Int) (B g n k q p0 s : Nat) (L : List UInt8) (hL : L.length = n) (hq : q ≤ 31) (hs : 1 ≤ s) (h2 : p0 + 3 * s < n) (hn : n ≤ 16777216) (hb : Bytes w B (.slice (some ⟨g, 0, none⟩) n k) L) :
    Calls Tryz.prog 123 #[.agg #[.int .i64 W, .int .i64 H, .slice (some ⟨g, 0, none⟩) n k], .int .i64 (p0 : Int), .int .i64 (s : Int), .int .i64 (q : Int)] w fun e w' => e = .returned (.tuple #[]) ∧ Bytes w' B (.slice (some ⟨g, 0, none⟩) n k) (smo q L (p0 + 2 * s) s) ∧ Mod (· = g) w w' := by
  obtain ⟨p1, hp1⟩ : ∃ p1, p1 = p0 + s := ⟨_, rfl⟩
  obtain ⟨p2, hp2⟩ : ∃ p2, p2 = p0 + 2 * s := ⟨_, rfl⟩
  obtain ⟨p3, hp3⟩ : ∃ p3, p3 = p0 + 3 * s := ⟨_, rfl⟩
  have hR : smo q L (p0 + 2 * s) s = (L.set p1 (UInt8.ofNat (lineN (L.getD p0 0).toNat (L.getD p1 0).toNat (L.getD p2 0).toNat (L.getD p3 0).toNat q).1)).set p2
    (UInt8.ofNat (lineN (L.getD p0 0).toNat (L.getD p1 0).toNat (L.getD p2 0).toNat (L.getD p3 0).toNat q).2) := by
    unfold smo
    rw [show p0 + 2 * s - s = p1 by omega, show p0 + 2 * s - 2 * s = p0 by omega, show p0 + 2 * s + s = p3 by omega, ← hp2]
  have hB0 : Bytes (w.alloc (.cells #[.int .i64 W, .int .i64 H, .slice (some ⟨g, 0, none⟩) n k] 35)) B (.slice (some ⟨g, 0, none⟩) n k) L := hb.quiet ((Mod.refl _ _).alloc _)
  have k0 := hB0.cell p0 (by omega)
  have k1 := hB0.cell p1 (by omega)
  have k2 := hB0.cell p2 (by omega)
  have k3 := hB0.cell p3 (by omega)
  have hlt := lineN_lt (L.getD p0 0).toNat (L.getD p1 0).toNat (L.getD p2 0).toNat (L.getD p3 0).toNat q (UInt8.toNat_lt _) (UInt8.toNat_lt _)
  have x0 : (L.getD p0 0).toNat < 256 := UInt8.toNat_lt _
  have x1 : (L.getD p1 0).toNat < 256 := UInt8.toNat_lt _
  have x2 : (L.getD p2 0).toNat < 256 := UInt8.toNat_lt _
  have x3 : (L.getD p3 0).toNat < 256 := UInt8.toNat_lt _
  obtain ⟨v0, hv0⟩ : ∃ v, v = (L.getD p0 0).toNat := ⟨_, rfl⟩
  obtain ⟨v1, hv1⟩ : ∃ v, v = (L.getD p1 0).toNat := ⟨_, rfl⟩
  obtain ⟨v2, hv2⟩ : ∃ v, v = (L.getD p2 0).toNat := ⟨_, rfl⟩
  obtain ⟨v3, hv3⟩ : ∃ v, v = (L.getD p3 0).toNat := ⟨_, rfl⟩
  rw [← hv0, ← hv1, ← hv2, ← hv3] at hR hlt
  rw [← hv0] at k0 x0
  rw [← hv1] at k1 x1
  rw [← hv2] at k2 x2
  rw [← hv3] at k3 x3
  obtain ⟨l1, l2⟩ := hlt
  have e1 : IntKind.i64.wrap ((p0 : Int) + (s : Int)) = (p1 : Int) := by rw [IntWalk.i64_in _ ⟨by omega, by omega⟩]; omega
  have e2 : IntKind.i64.wrap (2 * (s : Int)) = 2 * (s : Int) := IntWalk.i64_in _ ⟨by omega, by omega⟩
  have e3 : IntKind.i64.wrap ((p0 : Int) + 2 * (s : Int)) = (p2 : Int) := by rw [IntWalk.i64_in _ ⟨by omega, by omega⟩]; omega
  have e4 : IntKind.i64.wrap (3 * (s : Int)) = 3 * (s : Int) := IntWalk.i64_in _ ⟨by omega, by omega⟩
  have e5 : IntKind.i64.wrap ((p0 : Int) + 3 * (s : Int)) = (p3 : Int) := by rw [IntWalk.i64_in _ ⟨by omega, by omega⟩]; omega
  have i0 : (0 : Int) ≤ (p0 : Int) := by omega
  have i1 : (0 : Int) ≤ (p1 : Int) := by omega
  have i2 : (0 : Int) ≤ (p2 : Int) := by omega
  have i3 : (0 : Int) ≤ (p3 : Int) := by omega
  have j0 : (p0 : Int) < (n : Int) := by omega
  have j1 : (p1 : Int) < (n : Int) := by omega
  have j2 : (p2 : Int) < (n : Int) := by omega
  have j3 : (p3 : Int) < (n : Int) := by omega
  have hne : p1 ≠ p2 := by omega
  have f1 : (p0 : Int) + (s : Int) = (p1 : Int) := by omega
  have f2 : (p0 : Int) + 2 * (s : Int) = (p2 : Int) := by omega
  have fz := hB0.frozen
  have gl := hB0.low.2
  have gl0 := hb.low.2
  have HE := Lib.hid (And.intro e1 (And.intro e2 (And.intro e3 (And.intro e4 e5))))
  have HH := Lib.hid (And.intro hR (And.intro hB0 (And.intro hL (And.intro f1 f2))))
  clear hR hb hB0 hL hp1 hp2 hp3 hv0 hv1 hv2 hv3 e1 e2 e3 e4 e5 f1 f2
  go_enter Tryz.func123, Tryz.ntmps123
  go_upto_region 1 with (fail)
  obtain ⟨e1, e2, e3, e4, e5⟩ := HE.out
  go_quiet ((go_at_call 151; exact Calls.quiet_of_same (quiet_fLine _ v0 v1 v2 v3 q x0 x1 x2 x3 hq _)))
  clear e1 e2 e3 e4 e5
  have f1 := HH.out.2.2.2.1
  have f2 := HH.out.2.2.2.2
  go_wp2_with fail
  go_end0
  refine ⟨rfl, ?_, ?_⟩
  · rw [HH.out.1]
    exact ((HH.out.2.1.quiet ((Mod.refl _ _).drewN _)).putN p1 _ l1).putN p2 _ l2
  · exact ((((Mod.refl (· = g) w).alloc _).drewN _).setCell (p := ⟨g, p1, none⟩) (.inl rfl) _).setCell (p := ⟨g, p2, none⟩) (.inl rfl) _
end Go.Proofs.YteppnjgfebcmjaaGreat

/-
  The reference's motion: Sample.
-/
namespace Go.Proofs.YteppnjgfebcmjaaGreat
open Go.RowKit

theorem tmod2_iff (x : Int) : x.tmod 2 = 0 ↔ x % 2 = 0 := by
  by_cases h : 0 ≤ x
  · rw [Int.tmod_eq_emod_of_nonneg h]
  · have e : x = -(-x) := by omega
    have h2 : x.tmod 2 = -((-x) % 2) := by
      conv => lhs; rw [e]
      rw [Int.neg_tmod, Int.tmod_eq_emod_of_nonneg (by omega)]
    rw [h2]
    omega
theorem tmod2_t {x : Int} (h : x % 2 = 0) : (x.tmod 2 == 0) = true := by rw [beq_iff_eq, tmod2_iff]; exact h
theorem tmod2_f {x : Int} (h : ¬ x % 2 = 0) : (x.tmod 2 == 0) = false := by rw [beq_eq_false_iff_ne, Ne, tmod2_iff]; exact h
set_option maxRecDepth 100000 in
set_option maxHeartbeats 1000000 in
theorem fMvSample (w : World) (W H : Nat) (A : Option Addr) (n c : Nat) (pix : List UInt8) (h : sidesB W H = true) (hn : n = W * H) (hin : BytesIn w A n c pix) (x y : Int) (hx : -1073741824 ≤ x ∧ x ≤ 1073741824) (hy : -1073741824 ≤ y ∧ y ≤ 1073741824) :
    Calls Tryz.prog 148 #[.agg #[.int .i64 (W : Int), .int .i64 (H : Int), .slice A n c], .int .i64 x, .int .i64 y] w fun e w' => e = .returned (.int .u8 ((smpN W H pix x y : Nat) : Int)) ∧ Mod (fun _ => False) w w' := by
  have HI := Lib.hid (And.intro h (And.intro hin hn))
  clear h hin hn
  have h0 := (Sat.nil (fun _ => False) w)
  obtain ⟨hx1, hx2⟩ := hx
  obtain ⟨hy1, hy2⟩ := hy
  have hrs : smpN W H pix x y = smpN W H pix x y := rfl
  conv at hrs => rhs; unfold smpN
  have HD := Lib.hid hrs
  clear hrs
  by_cases hcy : y % 2 = 0
  · have d2 : (y.tmod 2 == 0) = true := tmod2_t hcy
    have HR := Lib.hid (HD.out.trans (if_pos hcy))
    clear hcy HD
    by_cases hcx : x % 2 = 0
    · have d1 : (x.tmod 2 == 0) = true := tmod2_t hcx
      have HR := Lib.hid (HR.out.trans (if_pos hcx))
      clear hcx
      go_enter Tryz.func148, Tryz.ntmps148; go_wp2_with fail; refine (fPRight _ W H A n c HI.out.1 HI.out.2.2).mono ?_; rintro e w1 ⟨rfl, hm1⟩; have HS := (h0.alloc 35 #[.int .i64 (W : Int), .int .i64 (H : Int), .slice A n c] rfl).quiet hm1; obtain ⟨pc, pf⟩ := (HS.own_ 0 rfl).both; clear hm1; go_wp2_with fail; refine (fFloor _ _ 2 ⟨by omega, by omega⟩ ⟨by omega, by omega⟩).mono ?_; rintro e w2 ⟨rfl, rfl⟩; go_wp2_with fail; refine (fFloor _ _ 2 ⟨by omega, by omega⟩ ⟨by omega, by omega⟩).mono ?_; rintro e w2 ⟨rfl, rfl⟩; go_wp2_with fail
      refine (fAt _ W H A n c pix HI.out.1 HI.out.2.2 (HI.out.2.1.quiet HS.mod) _ _).mono ?_
      rintro e w2 ⟨rfl, hm2⟩; go_wp2_with fail; go_ret; exact ⟨by rw [HR.out]; rfl, HS.mod.trans hm2⟩
    · have d1 : (x.tmod 2 == 0) = false := tmod2_f hcx
      have HR := Lib.hid (HR.out.trans (if_neg hcx))
      have hl := acrN_lt W H pix (x / 2) (y / 2)
      clear hcx
      go_enter Tryz.func148, Tryz.ntmps148; go_wp2_with fail; refine (fPRight _ W H A n c HI.out.1 HI.out.2.2).mono ?_; rintro e w1 ⟨rfl, hm1⟩; have HS := (h0.alloc 35 #[.int .i64 (W : Int), .int .i64 (H : Int), .slice A n c] rfl).quiet hm1; obtain ⟨pc, pf⟩ := (HS.own_ 0 rfl).both; clear hm1; go_wp2_with fail; refine (fFloor _ _ 2 ⟨by omega, by omega⟩ ⟨by omega, by omega⟩).mono ?_; rintro e w2 ⟨rfl, rfl⟩; go_wp2_with fail; refine (fFloor _ _ 2 ⟨by omega, by omega⟩ ⟨by omega, by omega⟩).mono ?_; rintro e w2 ⟨rfl, rfl⟩; go_wp2_with fail
      refine (fAcross _ W H A n c pix HI.out.1 HI.out.2.2 (HI.out.2.1.quiet HS.mod) _ _ ⟨by omega, by omega⟩).mono ?_
      rintro e w2 ⟨rfl, hm2⟩; go_wp2_with fail; go_ret; exact ⟨by rw [HR.out]; rfl, HS.mod.trans hm2⟩
  · have d2 : (y.tmod 2 == 0) = false := tmod2_f hcy
    have HR := Lib.hid (HD.out.trans (if_neg hcy))
    clear hcy HD
    by_cases hcx : x % 2 = 0
    · have d1 : (x.tmod 2 == 0) = true := tmod2_t hcx
      have HR := Lib.hid (HR.out.trans (if_pos hcx))
      have hl : dwnN W H pix (x / 2) (y / 2) < 256 := halfN_lt _ _ _ _ _ _
      clear hcx
      go_enter Tryz.func148, Tryz.ntmps148; go_wp2_with fail; refine (fPRight _ W H A n c HI.out.1 HI.out.2.2).mono ?_; rintro e w1 ⟨rfl, hm1⟩; have HS := (h0.alloc 35 #[.int .i64 (W : Int), .int .i64 (H : Int), .slice A n c] rfl).quiet hm1; obtain ⟨pc, pf⟩ := (HS.own_ 0 rfl).both; clear hm1; go_wp2_with fail; refine (fFloor _ _ 2 ⟨by omega, by omega⟩ ⟨by omega, by omega⟩).mono ?_; rintro e w2 ⟨rfl, rfl⟩; go_wp2_with fail; refine (fFloor _ _ 2 ⟨by omega, by omega⟩ ⟨by omega, by omega⟩).mono ?_; rintro e w2 ⟨rfl, rfl⟩; go_wp2_with fail
      refine (fDown _ W H A n c pix HI.out.1 HI.out.2.2 (HI.out.2.1.quiet HS.mod) _ _ ⟨by omega, by omega⟩).mono ?_
      rintro e w2 ⟨rfl, hm2⟩; go_wp2_with fail; go_ret; exact ⟨by rw [HR.out]; rfl, HS.mod.trans hm2⟩
    · have d1 : (x.tmod 2 == 0) = false := tmod2_f hcx
      have HR := Lib.hid (HR.out.trans (if_neg hcx))
      clear hcx
      go_enter Tryz.func148, Tryz.ntmps148; go_wp2_with fail; refine (fPRight _ W H A n c HI.out.1 HI.out.2.2).mono ?_; rintro e w1 ⟨rfl, hm1⟩; have HS := (h0.alloc 35 #[.int .i64 (W : Int), .int .i64 (H : Int), .slice A n c] rfl).quiet hm1; obtain ⟨pc, pf⟩ := (HS.own_ 0 rfl).both; clear hm1; go_wp2_with fail; refine (fFloor _ _ 2 ⟨by omega, by omega⟩ ⟨by omega, by omega⟩).mono ?_; rintro e w2 ⟨rfl, rfl⟩; go_wp2_with fail; refine (fFloor _ _ 2 ⟨by omega, by omega⟩ ⟨by omega, by omega⟩).mono ?_; rintro e w2 ⟨rfl, rfl⟩; go_wp2_with fail
      have HS1 := HS.drew
      have y0 : IntKind.i64.wrap (y / 2 + 1) = y / 2 + 1 := IntWalk.i64_in _ ⟨by omega, by omega⟩
      have l1 := acrN_lt W H pix (x / 2) (y / 2)
      have l2 := acrN_lt W H pix (x / 2) (y / 2 + 1)
      clear pc
      go_region_held3 (fun w' => w'.cell? ⟨w.heap.size, 0, none⟩ = some (.int .i64 (W : Int)) ∧ w'.cell? ⟨w.heap.size, 1, none⟩ = some (.int .i64 (H : Int)) ∧ w'.cell? ⟨w.heap.size, 2, none⟩ = some (.slice A n c)) (first | exact pl_cells (HS1.own_ 0 rfl) | exact pl_cells (HS.own_ 0 rfl)) (first | (go_at_call 168; refine (fAcross _ W H A n c pix HI.out.1 HI.out.2.2 (HI.out.2.1.quiet HS1.mod) _ _ ⟨by omega, by omega⟩).mono ?_; rintro e w2 ⟨rfl, hm2⟩; have HS1 := HS1.quiet hm2; clear hm2))
      have hM := HS1.mod
      clear y0
      go_wp2_with fail
      go_ret
      refine ⟨congrArg (fun z => Ending.returned (.int .u8 z)) ?_, hM⟩
      rw [HR.out]
      generalize acrN W H pix (x / 2) (y / 2) = a at *
      generalize acrN W H pix (x / 2) (y / 2 + 1) = b at *
      rw [IntWalk.i64_in ((a : Int) + (b : Int)) ⟨by omega, by omega⟩, IntWalk.i64_in ((a : Int) + (b : Int) + 1) ⟨by omega, by omega⟩]
      rw [Int.tdiv_eq_ediv_of_nonneg (by omega), IntWalk.i64_in _ ⟨by omega, by omega⟩, IntWalk.u8_in _ ⟨by omega, by omega⟩]
      omega
end Go.Proofs.YteppnjgfebcmjaaGreat
