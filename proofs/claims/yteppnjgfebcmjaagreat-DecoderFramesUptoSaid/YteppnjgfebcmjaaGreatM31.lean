/-
  The reference's intra: Guess.
-/
import Derived.Test.YteppnjgfebcmjaaGreatM30
import Derived.Test.YteppnjgfebcmjaaGreatM10
import Derived.Test.YteppnjgfebcmjaaGreatM29
import Derived.Test.YteppnjgfebcmjaaGreatM23
import Derived.Test.YteppnjgfebcmjaaGreatM24
import Derived.Test.YteppnjgfebcmjaaGreatM28
namespace Go.Proofs.YteppnjgfebcmjaaGreat
open Go.RowKit

theorem Bytes.apart {w : World} {B : Nat} {v : Value} {l : List UInt8} (h : Bytes w B v l) {g : Nat} {t : TypeId} {cs : Array Value} (hb : Blk w g t cs) (ht : t ≠ 5) : ¬ v.ownBlock = some g := by
  intro e
  rcases h.2 with ⟨h', _⟩ | ⟨g', cap', cur, h', _, hg, _⟩
  · rw [h'] at e; cases e
  · rw [h'] at e
    simp only [Value.ownBlock, Option.some.injEq] at e
    subst e
    have h2 : w.heap[g']? = some (.cells cs t (0, 0)) := hb
    rw [hg] at h2
    injection h2 with h2
    injection h2 with _ h3 _
    exact ht h3.symm
def rowTil (f : Nat → UInt8) (k : Nat) : List UInt8 := (List.range k).map f
theorem rowTil_succ (f : Nat → UInt8) (k : Nat) : rowTil f (k + 1) = rowTil f k ++ [f k] := by simp [rowTil, List.range_succ]
theorem rowTil_length (f : Nat → UInt8) (k : Nat) : (rowTil f k).length = k := by simp [rowTil]
/-- A row that grows byte by byte, beside a known block. -/
def GrowAt (w wr : World) (p : Nat) (cs : Array Value) (v : Value) (l : List UInt8) : Prop := Bytes wr w.heap.size v l ∧ Blk wr p 35 cs ∧ Mod (fun _ => False) w wr
theorem GrowAt.quiet {w wr w' : World} {p : Nat} {cs : Array Value} {v : Value} {l : List UInt8} (h : GrowAt w wr p cs v l) (hm : Mod (fun _ => False) wr w') : GrowAt w w' p cs v l := ⟨h.1.quiet hm, h.2.1.keep hm (fun h => h), h.2.2.trans hm⟩
theorem GrowAt.app {w wr w' : World} {p : Nat} {cs : Array Value} {v v' : Value} {l l' : List UInt8} (h : GrowAt w wr p cs v l) (ho : Bytes w' w.heap.size v' l') (hm : Mod (fun j => v.ownBlock = some j) wr w') : GrowAt w w' p cs v' l' :=
  ⟨ho, h.2.1.keep hm (h.1.apart h.2.1 (show 35 ≠ 5 by decide)), h.2.2.into hm (fun i e => .inr (World.ownsRow.lt h.1 i e).1)⟩
def FG1 (w : World) (p : Nat) (cs : Array Value) (f : Nat → UInt8) (v13 v14 : Value) (wr : World) : Prop := ∃ j : Nat, j ≤ 8 ∧ v14 = .int .i64 (j : Int) ∧ GrowAt w wr p cs v13 (rowTil f (j * 8))
def FG2 (w : World) (p : Nat) (cs : Array Value) (f : Nat → UInt8) (j : Nat) (v13 v15 : Value) (wr : World) : Prop := ∃ i : Nat, i ≤ 8 ∧ v15 = .int .i64 (i : Int) ∧ GrowAt w wr p cs v13 (rowTil f (j * 8 + i))

set_option maxRecDepth 100000 in
set_option maxHeartbeats 2000000 in
theorem fGuess (w : World) (W H : Nat) (A : Option Addr) (n c : Nat) (pix : List UInt8) (h : sidesB W H = true) (hn : n = W * H) (hin : BytesIn w A n c pix) (x y m : Nat) (hx : x + 8 ≤ W) (hy : y + 8 ≤ H) (hm : m < 4) :
    Calls Tryz.prog 76 #[.agg #[.int .i64 (W : Int), .int .i64 (H : Int), .slice A n c], .int .i64 (x : Int), .int .i64 (y : Int), .int .i64 8, .int .i64 (m : Int)] w
      fun e w' => ∃ v, e = .returned (.tuple #[v, .int .i64 0]) ∧ Bytes w' w.heap.size v (guessL W pix x y m) ∧ Mod (fun _ => False) w w' := by
  obtain ⟨_, hW1, hW2, hH1, hH2, _⟩ := area_le h
  have HI := Lib.hid (And.intro h (And.intro hn hin))
  clear h hin hn
  have t1 : decide ((x : Int) < 0) = false := decide_eq_false (by omega)
  have t2 : decide ((W : Int) - 8 < (x : Int)) = false := decide_eq_false (by omega)
  have t3 : decide ((y : Int) < 0) = false := decide_eq_false (by omega)
  have t4 : decide ((H : Int) - 8 < (y : Int)) = false := decide_eq_false (by omega)
  have t5 : decide ((m : Int) < 0) = false := decide_eq_false (by omega)
  have t6 : decide (3 < (m : Int)) = false := decide_eq_false (by omega)
  have h0 := (Sat.nil (fun _ => False) w).alloc 35 #[.int .i64 (W : Int), .int .i64 (H : Int), .slice A n c] rfl
  have H0 := Lib.hid h0
  clear h0
  go_enter Tryz.func76, Tryz.ntmps76
  go_wp2_with fail
  refine (fPRight _ W H A n c HI.out.1 HI.out.2.1).mono ?_
  rintro e w1 ⟨rfl, hm1⟩
  have HS := H0.out.quiet hm1
  obtain ⟨pc, pf⟩ := (HS.own_ 0 rfl).both
  have HG0 : Hid (GrowAt w w1 w.heap.size #[.int .i64 (W : Int), .int .i64 (H : Int), .slice A n c] (.slice none 0 0) (rowTil (guessF W pix x y m) (0 * 8))) := ⟨World.ownsRow_nil _ _ _ _, HS.own_ 0 rfl, HS.mod⟩
  clear hm1 HS H0
  go_wp2_with fail
  go_loopw [13, 14] (FG1 w w.heap.size #[.int .i64 (W : Int), .int .i64 (H : Int), .slice A n c] (guessF W pix x y m)) (fun _ s _ => 8 - (intOf s).toNat)
  case atStart => exact ⟨0, by omega, rfl, HG0.out⟩
  case round =>
    clear HG0 pc pf
    obtain ⟨j, hj, rfl, hG⟩ := hrel
    have HG := Lib.hid hG
    clear hG
    by_cases hlt : j < 8
    · have d1 : decide ((j : Int) < 8) = true := decide_eq_true (by omega)
      go_wp2_with fail
      go_loopw [13, 15] (FG2 w w.heap.size #[.int .i64 (W : Int), .int .i64 (H : Int), .slice A n c] (guessF W pix x y m) j) (fun _ s _ => 8 - (intOf s).toNat)
      case atStart => exact ⟨0, by omega, rfl, HG.out⟩
      case round =>
        clear HG
        rename World => w5
        obtain ⟨i, hi, rfl, hG⟩ := hrel
        by_cases hli : i < 8
        · have d2 : decide ((i : Int) < 8) = true := decide_eq_true (by omega)
          obtain ⟨pc, pf⟩ := hG.2.1.both
          have hff : gsN m (lkAb W pix x y) (lkLf W pix x y) (lkCo W pix x y) i j = (guessF W pix x y m (j * 8 + i)).toNat := by
            rw [guessF_n, show (j * 8 + i) % 8 = i by omega, show (j * 8 + i) / 8 = j by omega]
          have HK := Lib.hid (And.intro hG hff)
          clear hG hff
          go_wp2_with fail
          refine (fISample _ W H A n c pix HI.out.1 HI.out.2.1 (HI.out.2.2.quiet HK.out.1.2.2) x y m i j hx hy hm hli hlt).mono ?_
          rintro e w6 ⟨rfl, hm6⟩
          rw [HK.out.2]
          have HA := Lib.hid (And.intro (HK.out.1.quiet hm6) ((HK.out.1.quiet hm6).2.2.size))
          clear hm6 pc pf
          go_wp2_with (at_builtin; have _t := HA; refine wpList_app_u8 _ rfl (.tmp 68) (.tmp 77) rfl w.heap.size _ (rowTil (guessF W pix x y m) (j * 8 + i)) (guessF W pix x y m (j * 8 + i)) rfl rfl HA.out.1.1 HA.out.2 (by rw [rowTil_length]; omega) ?_; intro v7 w7 hown7 hM7 _ _; have HO := Lib.hid (HA.out.1.app hown7 hM7); clear hown7 hM7)
          go_roundw
          case rel => exact ⟨i + 1, by omega, by go_num, by rw [← Nat.add_assoc, rowTil_succ]; exact HO.out⟩
          case measure => simp [intOf]; omega
        · obtain rfl : i = 8 := by omega
          have HK := Lib.hid hG
          clear hG
          go_wp2_with fail
          go_roundw
          case rel => exact ⟨j + 1, by omega, by go_num, by rw [Nat.add_mul, Nat.one_mul]; exact HK.out⟩
          case measure => simp [intOf]; omega
    · obtain rfl : j = 8 := by omega
      go_wp2_with fail
      go_ret2
      exact ⟨_, rfl, HG.out.1, HG.out.2.2⟩
end Go.Proofs.YteppnjgfebcmjaaGreat

/-
  The reference's motion: small, Block, Chroma.
-/
namespace Go.Proofs.YteppnjgfebcmjaaGreat
open Go.RowKit

set_option maxRecDepth 100000 in
theorem fSmall (w : World) (v : Int) (hv : -1048576 ≤ v ∧ v ≤ 1048576) : Calls Tryz.prog 147 #[.int .i64 v] w fun e w' => e = .returned (.bool true) ∧ w = w' := by
  have d1 : decide (-1048576 ≤ v) = true := decide_eq_true hv.1
  have d2 : decide (v ≤ 1048576) = true := decide_eq_true hv.2
  go_enter Tryz.func147, Tryz.ntmps147
  go_wp2_with fail
  go_ret
  exact ⟨rfl, rfl⟩
/-- A row that grows byte by byte, beside known blocks of other kinds. -/
def GrowS (w wr : World) (L : List Ent) (v : Value) (l : List UInt8) : Prop := Bytes wr w.heap.size v l ∧ Sat (fun _ => False) w wr L []
theorem GrowS.quiet {w wr w' : World} {L : List Ent} {v : Value} {l : List UInt8} (h : GrowS w wr L v l) (hm : Mod (fun _ => False) wr w') : GrowS w w' L v l := ⟨h.1.quiet hm, h.2.quiet hm⟩
theorem GrowS.app {w wr w' : World} {L : List Ent} {v v' : Value} {l l' : List UInt8} (h : GrowS w wr L v l) (hL : ∀ e ∈ L, e.t ≠ 5) (ho : Bytes w' w.heap.size v' l') (hm : Mod (fun j => v.ownBlock = some j) wr w') : GrowS w w' L v' l' :=
  ⟨ho, Sat.beside hm h.2 (fun j e => .inr (World.ownsRow.lt h.1 j e).1) (fun e he hb => h.1.apart (h.2.blk e he) (hL e (by simpa using he)) hb)⟩
def FB1 (w : World) (L : List Ent) (f : Nat → UInt8) (v13 v14 : Value) (wr : World) : Prop := ∃ j : Nat, j ≤ 8 ∧ v14 = .int .i64 (j : Int) ∧ GrowS w wr L v13 (rowTil f (j * 8))
def FB2 (w : World) (L : List Ent) (f : Nat → UInt8) (j : Nat) (v13 v15 : Value) (wr : World) : Prop := ∃ i : Nat, i ≤ 8 ∧ v15 = .int .i64 (i : Int) ∧ GrowS w wr L v13 (rowTil f (j * 8 + i))

set_option maxRecDepth 100000 in
set_option maxHeartbeats 2000000 in
theorem fMvBlock (w : World) (W H : Nat) (A : Option Addr) (n c : Nat) (pix : List UInt8) (h : sidesB W H = true) (hn : n = W * H) (hin : BytesIn w A n c pix) (x y : Nat) (vx vy : Int) (hx : x ≤ 4096) (hy : y ≤ 4096) (hvx : -128 ≤ vx ∧ vx ≤ 128) (hvy : -128 ≤ vy ∧ vy ≤ 128) :
    Calls Tryz.prog 117 #[.agg #[.int .i64 (W : Int), .int .i64 (H : Int), .slice A n c], .int .i64 (x : Int), .int .i64 (y : Int), .int .i64 8, .agg #[.int .i64 vx, .int .i64 vy]] w
      fun e w' => ∃ v, e = .returned v ∧ Bytes w' w.heap.size v (mvL W H pix x y 8 vx vy) ∧ Mod (fun _ => False) w w' := by
  have HI := Lib.hid (And.intro h (And.intro hn hin))
  clear h hin hn
  obtain ⟨hvx1, hvx2⟩ := hvx
  obtain ⟨hvy1, hvy2⟩ := hvy
  have h0 := ((Sat.nil (fun _ => False) w).alloc 35 #[.int .i64 (W : Int), .int .i64 (H : Int), .slice A n c] rfl).alloc (g := w.heap.size + 1) 125 #[.int .i64 vx, .int .i64 vy] (by simp)
  have H0 := Lib.hid h0
  clear h0
  go_enter Tryz.func117, Tryz.ntmps117
  go_wp2_with fail
  refine (fPRight _ W H A n c HI.out.1 HI.out.2.1).mono ?_
  rintro e w1 ⟨rfl, hm1⟩
  have HS := H0.out.quiet hm1
  obtain ⟨pc, pf⟩ := (HS.own_ 1 rfl).both
  obtain ⟨vc, vf⟩ := (HS.own_ 0 rfl).both
  have HG0 : Hid (GrowS w w1 _ (.slice none 0 0) (rowTil (mvF W H pix x y 8 vx vy) (0 * 8))) := ⟨World.ownsRow_nil _ _ _ _, HS⟩
  clear hm1 HS H0
  go_wp2_with fail
  refine (fSmall _ _ ⟨by omega, by omega⟩).mono ?_
  rintro e w2 ⟨rfl, rfl⟩
  go_wp2_with fail
  refine (fSmall _ _ ⟨by omega, by omega⟩).mono ?_
  rintro e w2 ⟨rfl, rfl⟩
  go_wp2_with fail
  refine (fSmall _ _ ⟨by omega, by omega⟩).mono ?_
  rintro e w2 ⟨rfl, rfl⟩
  go_wp2_with fail
  refine (fSmall _ _ ⟨by omega, by omega⟩).mono ?_
  rintro e w2 ⟨rfl, rfl⟩
  go_wp2_with fail
  go_loopw [14, 15] (FB1 w _ (mvF W H pix x y 8 vx vy)) (fun _ s _ => 8 - (intOf s).toNat)
  case atStart => exact ⟨0, by omega, rfl, HG0.out⟩
  case round =>
    clear HG0 pc pf vc vf
    obtain ⟨j, hj, rfl, hG⟩ := hrel
    have HG := Lib.hid hG
    clear hG
    by_cases hlt : j < 8
    · have d1 : decide ((j : Int) < 8) = true := decide_eq_true (by omega)
      go_wp2_with fail
      go_loopw [14, 16] (FB2 w _ (mvF W H pix x y 8 vx vy) j) (fun _ s _ => 8 - (intOf s).toNat)
      case atStart => exact ⟨0, by omega, rfl, HG.out⟩
      case round =>
        clear HG
        rename World => w5
        obtain ⟨i, hi, rfl, hG⟩ := hrel
        by_cases hli : i < 8
        · have d2 : decide ((i : Int) < 8) = true := decide_eq_true (by omega)
          obtain ⟨pc, pf⟩ := (hG.2.own_ 1 rfl).both
          obtain ⟨vc, vf⟩ := (hG.2.own_ 0 rfl).both
          have hff : smpN W H pix (2 * ((x : Int) + (i : Int)) + vx) (2 * ((y : Int) + (j : Int)) + vy) = (mvF W H pix x y 8 vx vy (j * 8 + i)).toNat := (mvF_at _ _ _ _ _ _ _ _ _ _ hli).symm
          have HK := Lib.hid (And.intro hG hff)
          clear hG hff
          go_wp2_with fail
          refine (fMvSample _ W H A n c pix HI.out.1 HI.out.2.1 (HI.out.2.2.quiet HK.out.1.2.mod) _ _ ⟨by omega, by omega⟩ ⟨by omega, by omega⟩).mono ?_
          rintro e w6 ⟨rfl, hm6⟩
          rw [HK.out.2]
          have HA := Lib.hid (And.intro (HK.out.1.quiet hm6) ((HK.out.1.quiet hm6).2.mod.size))
          clear hm6 pc pf vc vf
          go_wp2_with (at_builtin; have _t := HA; refine wpList_app_u8 _ rfl (.tmp 61) (.tmp 78) rfl w.heap.size _ (rowTil (mvF W H pix x y 8 vx vy) (j * 8 + i)) (mvF W H pix x y 8 vx vy (j * 8 + i)) rfl rfl HA.out.1.1 HA.out.2 (by rw [rowTil_length]; omega) ?_; intro v7 w7 hown7 hM7 _ _; have HO := Lib.hid (HA.out.1.app (by intro e he; simp at he; rcases he with rfl | rfl <;> (dsimp only; decide)) hown7 hM7); clear hown7 hM7)
          go_roundw
          case rel => exact ⟨i + 1, by omega, by go_num, by rw [← Nat.add_assoc, rowTil_succ]; exact HO.out⟩
          case measure => simp [intOf]; omega
        · obtain rfl : i = 8 := by omega
          have HK := Lib.hid hG
          clear hG
          go_wp2_with fail
          go_roundw
          case rel => exact ⟨j + 1, by omega, by go_num, by rw [Nat.add_mul, Nat.one_mul]; exact HK.out⟩
          case measure => simp [intOf]; omega
    · obtain rfl : j = 8 := by omega
      go_wp2_with fail
      go_ret
      exact ⟨_, rfl, HG.out.1, HG.out.2.mod⟩

set_option maxRecDepth 100000 in
set_option maxHeartbeats 2000000 in
theorem fChroma (w : World) (vx vy : Int) (hx : -1048576 ≤ vx ∧ vx ≤ 1048576) (hy : -1048576 ≤ vy ∧ vy ≤ 1048576) : Calls Tryz.prog 116 #[.agg #[.int .i64 vx, .int .i64 vy]] w fun e w' => e = .returned (.agg #[.int .i64 (vx / 2), .int .i64 (vy / 2)]) ∧ Mod (fun _ => False) w w' := by
  obtain ⟨hx1, hx2⟩ := hx
  obtain ⟨hy1, hy2⟩ := hy
  have h0 := ((Sat.nil (fun _ => False) w).alloc 125 #[.int .i64 vx, .int .i64 vy] rfl).alloc (g := w.heap.size + 1) 125 #[.int .i64 0, .int .i64 0] (by simp)
  have HS := h0.drew
  obtain ⟨pc, pf⟩ := (HS.own_ 1 rfl).both
  obtain ⟨qc, qf⟩ := (HS.own_ 0 rfl).both
  have ql := (HS.own_ 0 rfl).lt
  have H0 := Lib.hid h0
  clear h0 HS
  go_enter Tryz.func116, Tryz.ntmps116
  go_upto_region 1 with (fail)
  refine wp_region_plan [7] [] [0, 1, 2, 3, 4, 5, 6, 7] (by kernel_rfl) (by kernel_rfl) (fun _ _ _ d _ h => by cases d <;> exact h) ?_
  refine plan_still rfl rfl (fun K hK => ?_); go_simp; refine hK _ ?_; clear hK K
  refine plan_still rfl rfl (fun K hK => ?_); go_simp; refine hK _ ?_; clear hK K
  refine plan_still rfl rfl (fun K hK => ?_)
  go_simp
  refine ⟨_, (fFloor _ vx 2 ⟨by omega, by omega⟩ ⟨by omega, by omega⟩).mono (fun _ _ ⟨a, b⟩ => ⟨a, b.symm⟩), hK _ ?_⟩
  clear hK K
  refine plan_still rfl rfl (fun K hK => ?_); go_simp; refine hK _ ?_; clear hK K
  refine plan_still rfl rfl (fun K hK => ?_); go_simp; refine hK _ ?_; clear hK K
  refine plan_still rfl rfl (fun K hK => ?_)
  go_simp
  refine ⟨_, (fFloor _ vy 2 ⟨by omega, by omega⟩ ⟨by omega, by omega⟩).mono (fun _ _ ⟨a, b⟩ => ⟨a, b.symm⟩), hK _ ?_⟩
  clear hK K
  refine plan_still rfl rfl (fun K hK => ?_); go_simp; refine hK _ ?_; clear hK K
  refine plan_loud rfl rfl (fun K hK => ?_); go_simp; refine hK _ _ ?_; clear hK K
  refine plan_done ?_
  go_wp2_with fail
  refine bodyPost_ret (v := .agg #[.int .i64 (vx / 2), .int .i64 (vy / 2)]) (by simp [results, Tryz.results116, go_sem]) rfl ⟨rfl, ?_⟩
  exact (((Mod.refl _ _).alloc _).alloc _).drew
end Go.Proofs.YteppnjgfebcmjaaGreat

/-
  The reference's deblock: Plane.
-/
namespace Go.Proofs.YteppnjgfebcmjaaGreat
open Go.RowKit

theorem Bytes.down {w : World} {B B' : Nat} {v : Value} {l : List UInt8} (h : Bytes w B v l) (hB : B' ≤ B) : Bytes w B' v l :=
  ⟨h.1, h.2.imp id fun ⟨g, cap, cur, h1, h2, h3⟩ => ⟨g, cap, cur, h1, Nat.le_trans hB h2, h3⟩⟩
theorem GrowS.turn {w wr w' : World} {L : List Ent} {b n k : Nat} {l l' : List UInt8} (h : GrowS w wr L (.slice (some ⟨b, 0, none⟩) n k) l) (hL : ∀ e ∈ L, e.t ≠ 5) (ho : Bytes w' w.heap.size (.slice (some ⟨b, 0, none⟩) n k) l') (hm : Mod (· = b) wr w') : GrowS w w' L (.slice (some ⟨b, 0, none⟩) n k) l' :=
  h.app hL ho (hm.mono fun j e => by subst e; rfl)
def FDRows (w : World) (Ls : List Ent) (v : Value) (n q W H : Nat) (R : List UInt8) (s31 : Value) (wr : World) : Prop :=
  ∃ y L, y ≤ H ∧ s31 = .int .i64 (y : Int) ∧ L.length = n ∧ smRows q W (H - y) y L = R ∧ GrowS w wr Ls v L
def FDRow (w : World) (Ls : List Ent) (v : Value) (n q W y : Nat) (R : List UInt8) (s9 : Value) (wr : World) : Prop :=
  ∃ x f L, 8 ≤ x ∧ x ≤ W + 8 ∧ W ≤ x + f ∧ s9 = .int .i64 (x : Int) ∧ L.length = n ∧ smRow q W y f x L = R ∧ GrowS w wr Ls v L
def FDCols (w : World) (Ls : List Ent) (v : Value) (n q W H : Nat) (R : List UInt8) (s52 : Value) (wr : World) : Prop :=
  ∃ x L, x ≤ W ∧ s52 = .int .i64 (x : Int) ∧ L.length = n ∧ smCols q W H (W - x) x L = R ∧ GrowS w wr Ls v L
def FDCol (w : World) (Ls : List Ent) (v : Value) (n q W H x : Nat) (R : List UInt8) (s11 : Value) (wr : World) : Prop :=
  ∃ y f L, 8 ≤ y ∧ y ≤ H + 8 ∧ H ≤ y + f ∧ s11 = .int .i64 (y : Int) ∧ L.length = n ∧ smCol q W H x f y L = R ∧ GrowS w wr Ls v L
set_option maxRecDepth 100000 in
set_option maxHeartbeats 4000000 in
theorem fDebPlane (w : World) (W H : Nat) (A : Option Addr) (n c : Nat) (pix : List UInt8) (q : Nat) (h : sidesB W H = true) (hn : n = W * H) (hs : n ≤ 1048576) (hin : BytesIn w A n c pix) (hq : q ≤ 31) :
    Calls Tryz.prog 79 #[.agg #[.int .i64 (W : Int), .int .i64 (H : Int), .slice A n c], .int .i64 (q : Int)] w
      fun e w' => ∃ b k, e = .returned (.tuple #[.agg #[.int .i64 (W : Int), .int .i64 (H : Int), .slice (some ⟨b, 0, none⟩) n k], .int .i64 0]) ∧ Bytes w' w.heap.size (.slice (some ⟨b, 0, none⟩) n k) (smPlane q W H pix) ∧ Mod (fun _ => False) w w' := by
  obtain ⟨ha, hW1, hW2, hH1, hH2, hn1⟩ := area_le h
  have hpl : pix.length = n := hin.1
  rw [← hn] at ha hn1
  have h0 := ((Sat.nil (fun _ => False) w).alloc 35 #[.int .i64 (W : Int), .int .i64 (H : Int), .slice A n c] rfl).alloc (g := w.heap.size + 1) 35 #[.int .i64 0, .int .i64 0, .slice none 0 0] (by simp)
  have HI := Lib.hid (And.intro h (And.intro hin (And.intro hn hpl)))
  have H0 := Lib.hid h0
  clear h hin hn hpl h0
  have t1 : decide ((q : Int) < 0) = false := decide_eq_false (by omega)
  have t2 : decide (31 < (q : Int)) = false := decide_eq_false (by omega)
  go_enter Tryz.func79, Tryz.ntmps79
  go_wp2_with fail
  refine (fPRight _ W H A n c HI.out.1 HI.out.2.2.1).mono ?_
  rintro e w1 ⟨rfl, hm1⟩
  have HS := H0.out.quiet hm1
  obtain ⟨pc, pf⟩ := (HS.own_ 1 rfl).both
  have pl := (HS.own_ 1 rfl).lt
  have HH := Lib.hid HS
  clear HS hm1 H0
  go_wp2_with fail
  refine (fPCopy _ (W : Int) (H : Int) A n c pix (by omega) hs (HI.out.2.1.quiet HH.out.mod)).mono ?_
  rintro e w2 ⟨b, k, rfl, hb2, hm2⟩
  have HS2 := (HH.out.quiet hm2).alloc (g := w2.heap.size) 35 #[.int .i64 (W : Int), .int .i64 (H : Int), .slice (some ⟨b, 0, none⟩) n k] rfl
  have hle : w.heap.size ≤ w1.heap.size := HH.out.mod.size
  have hb3 : Bytes (w2.alloc (.cells #[.int .i64 (W : Int), .int .i64 (H : Int), .slice (some ⟨b, 0, none⟩) n k] 35)) w.heap.size (.slice (some ⟨b, 0, none⟩) n k) pix := by
    have h := hb2.quiet ((Mod.refl (fun _ => False) w2).alloc (.cells #[.int .i64 (W : Int), .int .i64 (H : Int), .slice (some ⟨b, 0, none⟩) n k] 35))
    exact h.down hle
  have HG : Hid (GrowS w _ _ (.slice (some ⟨b, 0, none⟩) n k) pix) := ⟨hb3, HS2⟩
  obtain ⟨pc, pf⟩ := (HS2.own_ 2 rfl).both
  obtain ⟨oc, of_⟩ := (HS2.own_ 0 rfl).both
  have pl := (HS2.own_ 2 rfl).lt
  have ol := (HS2.own_ 0 rfl).lt
  clear HS2 hb3 hb2 hm2 hle HH
  go_wp2_with fail
  go_loopw [8] (FDRows w _ (.slice (some ⟨b, 0, none⟩) n k) n q W H (smRows q W H 0 pix)) (fun s _ => H - (intOf s).toNat)
  case atStart => exact ⟨0, pix, by omega, rfl, HI.out.2.2.2, rfl, HG.out⟩
  case round =>
    clear HG pc pf oc of_ pl ol
    obtain ⟨y, L, hy, rfl, hL, hR, HS⟩ := hrel
    obtain ⟨pc, pf⟩ := (HS.2.own_ 2 rfl).both
    have HY := Lib.hid (And.intro hL (And.intro hR HS))
    clear hL hR HS
    by_cases hlt : y < H
    · have d1 : decide ((y : Int) < (H : Int)) = true := decide_eq_true (by omega)
      go_wp2_with fail
      go_loopw [9] (FDRow w _ (.slice (some ⟨b, 0, none⟩) n k) n q W y (smRow q W y W 8 L)) (fun s _ => W + 8 - (intOf s).toNat)
      case atStart => exact ⟨8, W, L, by omega, by omega, by omega, rfl, HY.out.1, rfl, HY.out.2.2⟩
      case round =>
        rename World => w6
        clear pc pf
        obtain ⟨x, f, L1, hx1, hx2, hf, rfl, hL1, hR1, HS1⟩ := hrel
        obtain ⟨pc, pf⟩ := (HS1.2.own_ 2 rfl).both
        obtain ⟨oc, of_⟩ := (HS1.2.own_ 0 rfl).both
        have HX := Lib.hid (And.intro hL1 (And.intro hR1 HS1))
        clear hL1 hR1 HS1
        by_cases hlx : x + 1 < W
        · have d2 : decide ((x : Int) + 1 < (W : Int)) = true := decide_eq_true (by omega)
          obtain ⟨m0, hm0⟩ : ∃ m0, m0 = y * W := ⟨_, rfl⟩
          obtain ⟨b1, b2⟩ := at_in (x := x) HI.out.2.2.1 hlt (by omega)
          rw [← hm0] at b1 b2
          have hmw : wrap64 ((y : Int) * (W : Int)) = (m0 : Int) := by
            rw [show (y : Int) * (W : Int) = (m0 : Int) by rw [hm0]; simp]
            exact IntWalk.wrap64_in _ ⟨by omega, by omega⟩
          have HM := Lib.hid (And.intro hm0 hmw)
          clear hm0 hmw
          go_wp2_with fail
          rw [HM.out.2, IntWalk.wrap64_in ((m0 : Int) + (x : Int)) ⟨by omega, by omega⟩, IntWalk.wrap64_in ((m0 : Int) + (x : Int) - 2) ⟨by omega, by omega⟩, show (m0 : Int) + (x : Int) - 2 = ((m0 + x - 2 : Nat) : Int) by omega]
          refine (fDone _ (W : Int) (H : Int) w.heap.size b n k q (m0 + x - 2) 1 L1 HX.out.1 hq (by omega) (by omega) ha HX.out.2.2.1).mono ?_
          rintro e w7 ⟨rfl, hb7, hm7⟩
          rw [show m0 + x - 2 + 2 * 1 = m0 + x by omega] at hb7
          have HS7 := HX.out.2.2.turn (by intro e he; simp at he; rcases he with rfl | rfl | rfl <;> (dsimp only; decide)) hb7 hm7
          clear hb7 hm7 pc pf oc of_
          have H7 := Lib.hid HS7
          clear HS7
          go_wp2_with fail
          go_roundw
          case rel =>
            obtain ⟨f', rfl⟩ : ∃ f', f = f' + 1 := ⟨f - 1, by omega⟩
            refine ⟨x + 8, f', smo q L1 (m0 + x) 1, by omega, by omega, by omega, by go_num, by rw [smo_length]; exact HX.out.1, ?_, H7.out⟩
            have := HX.out.2.1
            rw [smRow_step hlx, ← HM.out.1] at this
            exact this
          case measure => simp [intOf]; omega
        · have d2 : decide ((x : Int) + 1 < (W : Int)) = false := decide_eq_false (by omega)
          go_wp2_with fail
          go_roundw
          case rel =>
            have h1 := HX.out.2.1
            rw [smRow_done hlx] at h1
            refine ⟨y + 1, L1, by omega, by go_num, HX.out.1, ?_, HX.out.2.2⟩
            rw [h1, ← smRows_step hlt]
            exact HY.out.2.1
          case measure => simp [intOf]; omega
    · obtain rfl : y = H := by omega
      have hd := HY.out.2.1
      rw [Nat.sub_self] at hd
      have hd : L = smRows q W y 0 pix := hd
      subst hd
      have H5 := Lib.hid HY.out.2.2
      clear HY
      go_wp2_with fail
      clear pc pf
      go_loopw [10] (FDCols w _ (.slice (some ⟨b, 0, none⟩) n k) n q W y (smPlane q W y pix)) (fun s _ => W - (intOf s).toNat)
      case atStart => exact ⟨0, _, by omega, rfl, by rw [smRows_length]; exact HI.out.2.2.2, rfl, H5.out⟩
      case round =>
        clear H5
        rename World => w8
        obtain ⟨x, L, hx, rfl, hL, hR, HS⟩ := hrel
        obtain ⟨pc, pf⟩ := (HS.2.own_ 2 rfl).both
        obtain ⟨oc, of_⟩ := (HS.2.own_ 0 rfl).both
        obtain ⟨rc, rf⟩ := (HS.2.own_ 1 rfl).both
        have rl := (HS.2.own_ 1 rfl).lt
        have HY := Lib.hid (And.intro hL (And.intro hR HS))
        clear hL hR HS
        by_cases hlt : x < W
        · have d1 : decide ((x : Int) < (W : Int)) = true := decide_eq_true (by omega)
          go_wp2_with fail
          go_loopw [11] (FDCol w _ (.slice (some ⟨b, 0, none⟩) n k) n q W y x (smCol q W y x y 8 L)) (fun s _ => y + 8 - (intOf s).toNat)
          case atStart => exact ⟨8, y, L, by omega, by omega, by omega, rfl, HY.out.1, rfl, HY.out.2.2⟩
          case round =>
            rename World => w6
            clear pc pf oc of_ rc rf rl
            obtain ⟨z, f, L1, hz1, hz2, hf, rfl, hL1, hR1, HS1⟩ := hrel
            obtain ⟨pc, pf⟩ := (HS1.2.own_ 2 rfl).both
            obtain ⟨oc, of_⟩ := (HS1.2.own_ 0 rfl).both
            have HX := Lib.hid (And.intro hL1 (And.intro hR1 HS1))
            clear hL1 hR1 HS1
            by_cases hlz : z + 1 < y
            · have d2 : decide ((z : Int) + 1 < (y : Int)) = true := decide_eq_true (by omega)
              obtain ⟨m0, hm0⟩ : ∃ m0, m0 = z * W := ⟨_, rfl⟩
              obtain ⟨m1, hm1⟩ : ∃ m1, m1 = (z - 2) * W := ⟨_, rfl⟩
              obtain ⟨b1, b2⟩ := at_in (x := x) HI.out.2.2.1 hlz hlt
              rw [Nat.add_mul, Nat.one_mul, ← hm0] at b1 b2
              have b3 : m0 = m1 + 2 * W := by rw [hm0, hm1, ← Nat.add_mul]; congr 1; omega
              have hmw : wrap64 (((z : Int) - 2) * (W : Int)) = (m1 : Int) := by
                rw [show (z : Int) - 2 = ((z - 2 : Nat) : Int) by omega, show ((z - 2 : Nat) : Int) * (W : Int) = (m1 : Int) by rw [hm1]; simp]
                exact IntWalk.wrap64_in _ ⟨by omega, by omega⟩
              have HM := Lib.hid (And.intro hm0 hmw)
              clear hm0 hmw hm1
              go_wp2_with fail
              rw [HM.out.2, IntWalk.wrap64_in ((m1 : Int) + (x : Int)) ⟨by omega, by omega⟩, show (m1 : Int) + (x : Int) = ((m1 + x : Nat) : Int) by omega]
              refine (fDone _ (W : Int) (y : Int) w.heap.size b n k q (m1 + x) W L1 HX.out.1 hq (by omega) (by omega) ha HX.out.2.2.1).mono ?_
              rintro e w7 ⟨rfl, hb7, hm7⟩
              rw [show m1 + x + 2 * W = m0 + x by omega] at hb7
              have HS7 := HX.out.2.2.turn (by intro e he; simp at he; rcases he with rfl | rfl | rfl <;> (dsimp only; decide)) hb7 hm7
              clear hb7 hm7 pc pf oc of_
              have H7 := Lib.hid HS7
              clear HS7
              go_wp2_with fail
              go_roundw
              case rel =>
                obtain ⟨f', rfl⟩ : ∃ f', f = f' + 1 := ⟨f - 1, by omega⟩
                refine ⟨z + 8, f', smo q L1 (m0 + x) W, by omega, by omega, by omega, by go_num, by rw [smo_length]; exact HX.out.1, ?_, H7.out⟩
                have := HX.out.2.1
                rw [smCol_step hlz, ← HM.out.1] at this
                exact this
              case measure => simp [intOf]; omega
            · have d2 : decide ((z : Int) + 1 < (y : Int)) = false := decide_eq_false (by omega)
              go_wp2_with fail
              go_roundw
              case rel =>
                have h1 := HX.out.2.1
                rw [smCol_done hlz] at h1
                refine ⟨x + 1, L1, by omega, by go_num, HX.out.1, ?_, HX.out.2.2⟩
                rw [h1, ← smCols_step hlt]
                exact HY.out.2.1
              case measure => simp [intOf]; omega
        · obtain rfl : x = W := by omega
          have hd := HY.out.2.1
          rw [Nat.sub_self] at hd
          have hd : L = smPlane q x y pix := hd
          subst hd
          have d1 : decide ((x : Int) < (x : Int)) = false := decide_eq_false (by omega)
          go_wp2_with fail
          have hr := HY.out.2.2.1.ne_ (HY.out.2.2.2.own_ 1 rfl) (show 35 ≠ 5 by decide)
          dsimp only at hr
          have HE := ((HY.out.2.2.2.put (g := w.heap.size + 1) (i := 0) (u := .int .i64 (x : Int)) (.there (.here rfl))).put (g := w.heap.size + 1) (i := 1) (u := .int .i64 (y : Int)) (.there (.here rfl))).put (g := w.heap.size + 1) (i := 2) (u := .slice (some ⟨b, 0, none⟩) n k) (.there (.here rfl))
          have hB := ((HY.out.2.2.1.far (p := ⟨w.heap.size + 1, 0, none⟩) hr (.int .i64 (x : Int))).far (p := ⟨w.heap.size + 1, 1, none⟩) hr (.int .i64 (y : Int))).far (p := ⟨w.heap.size + 1, 2, none⟩) hr (.slice (some ⟨b, 0, none⟩) n k)
          exact bodyPost_ret (v := .tuple #[.agg #[.int .i64 (x : Int), .int .i64 (y : Int), .slice (some ⟨b, 0, none⟩) n k], .int .i64 0]) (by simp [results, Tryz.results79, go_sem, rc]) rfl ⟨b, k, rfl, hB, HE.mod⟩
end Go.Proofs.YteppnjgfebcmjaaGreat

/-
  The reference's frames in memory: Blank, Whole, deblock's Frame.
-/
namespace Go.Proofs.YteppnjgfebcmjaaGreat
open Go.RowKit

def frV (d : Dim) (b0 k0 b1 k1 b2 k2 : Nat) : List Value :=
  [.int .i64 (d.W : Int), .int .i64 (d.H : Int), .slice (some ⟨b0, 0, none⟩) d.nY k0, .int .i64 (d.W2 : Int), .int .i64 (d.H2 : Int), .slice (some ⟨b1, 0, none⟩) d.nC k1, .int .i64 (d.W2 : Int), .int .i64 (d.H2 : Int), .slice (some ⟨b2, 0, none⟩) d.nC k2]
/-- A frame of the reference. -/
structure FrB (w : World) (B : Nat) (d : Dim) (b0 k0 b1 k1 b2 k2 : Nat) (f : Pix) : Prop where
  y : Bytes w B (.slice (some ⟨b0, 0, none⟩) d.nY k0) f.Y
  u : Bytes w B (.slice (some ⟨b1, 0, none⟩) d.nC k1) f.U
  v : Bytes w B (.slice (some ⟨b2, 0, none⟩) d.nC k2) f.V
  ly : f.Y.length = d.nY
  lu : f.U.length = d.nC
  lv : f.V.length = d.nC
theorem FrB.quiet {w w' : World} {B : Nat} {d : Dim} {b0 k0 b1 k1 b2 k2 : Nat} {f : Pix} (h : FrB w B d b0 k0 b1 k1 b2 k2 f) (hm : Mod (fun _ => False) w w') : FrB w' B d b0 k0 b1 k1 b2 k2 f := ⟨h.y.quiet hm, h.u.quiet hm, h.v.quiet hm, h.ly, h.lu, h.lv⟩
theorem FrB.mod {S : Nat → Prop} {w w' : World} {B : Nat} {d : Dim} {b0 k0 b1 k1 b2 k2 : Nat} {f : Pix} (h : FrB w B d b0 k0 b1 k1 b2 k2 f) (hm : Mod S w w') (hS : ∀ j, S j → w.heap.size ≤ j ∨ ∃ t cs, Blk w j t cs ∧ t ≠ 5) : FrB w' B d b0 k0 b1 k1 b2 k2 f := by
  have go : ∀ {b n k : Nat} {l : List UInt8}, Bytes w B (.slice (some ⟨b, 0, none⟩) n k) l → Bytes w' B (.slice (some ⟨b, 0, none⟩) n k) l := fun hb => hb.mod hm (fun g e hg => by
    rcases hS g hg with h1 | ⟨t, cs, h1, h2⟩
    · have := (World.ownsRow.lt hb g e).2; omega
    · exact hb.apart h1 h2 e)
  exact ⟨go h.y, go h.u, go h.v, h.ly, h.lu, h.lv⟩
theorem FrB.down {w : World} {B B' : Nat} {d : Dim} {b0 k0 b1 k1 b2 k2 : Nat} {f : Pix} (h : FrB w B d b0 k0 b1 k1 b2 k2 f) (hB : B' ≤ B) : FrB w B' d b0 k0 b1 k1 b2 k2 f := ⟨h.y.down hB, h.u.down hB, h.v.down hB, h.ly, h.lu, h.lv⟩
def FrIn (w : World) (B : Nat) (d : Dim) (v : Value) (f : Pix) : Prop := ∃ b0 k0 b1 k1 b2 k2, v = .agg (frV d b0 k0 b1 k1 b2 k2).toArray ∧ FrB w B d b0 k0 b1 k1 b2 k2 f
theorem FrIn.quiet {w w' : World} {B : Nat} {d : Dim} {v : Value} {f : Pix} (h : FrIn w B d v f) (hm : Mod (fun _ => False) w w') : FrIn w' B d v f := by
  obtain ⟨b0, k0, b1, k1, b2, k2, e, h⟩ := h
  exact ⟨b0, k0, b1, k1, b2, k2, e, h.quiet hm⟩
theorem FrIn.mod {S : Nat → Prop} {w w' : World} {B : Nat} {d : Dim} {v : Value} {f : Pix} (h : FrIn w B d v f) (hm : Mod S w w') (hS : ∀ j, S j → w.heap.size ≤ j ∨ ∃ t cs, Blk w j t cs ∧ t ≠ 5) : FrIn w' B d v f := by
  obtain ⟨b0, k0, b1, k1, b2, k2, e, h⟩ := h
  exact ⟨b0, k0, b1, k1, b2, k2, e, h.mod hm hS⟩
theorem FrIn.down {w : World} {B B' : Nat} {d : Dim} {v : Value} {f : Pix} (h : FrIn w B d v f) (hB : B' ≤ B) : FrIn w B' d v f := by
  obtain ⟨b0, k0, b1, k1, b2, k2, e, h⟩ := h
  exact ⟨b0, k0, b1, k1, b2, k2, e, h.down hB⟩
theorem Bytes.in_n {w : World} {B b n k : Nat} {l : List UInt8} (h : Bytes w B (.slice (some ⟨b, 0, none⟩) n k) l) (hl : l.length = n) : BytesIn w (some ⟨b, 0, none⟩) n k l := by
  subst hl
  exact h.in_

set_option maxRecDepth 100000 in
set_option maxHeartbeats 4000000 in
theorem fWhole (w : World) (d : Dim) (hd : d.Ok) (b0 k0 b1 k1 b2 k2 : Nat) : Calls Tryz.prog 78 #[.agg (frV d b0 k0 b1 k1 b2 k2).toArray] w fun e w' => e = .returned (.bool true) ∧ Mod (fun _ => False) w w' := by
  have h0 := ((Sat.nil (fun _ => False) w).alloc 37 (frV d b0 k0 b1 k1 b2 k2).toArray rfl)
  have hw16 := hd.w16
  have hh16 := hd.h16
  have hq1 := hd.w2
  have hq2 := hd.h2
  have m1 : ((d.W : Int) % 16 == 0) = true := by simp; omega
  have m2 : ((d.H : Int) % 16 == 0) = true := by simp; omega
  have q1 : (d.W : Int) / 2 = (d.W2 : Int) := by omega
  have q2 : (d.H : Int) / 2 = (d.H2 : Int) := by omega
  obtain ⟨_, z1, z2, z3, z4, _⟩ := area_le hd.sides
  obtain ⟨_, z5, z6, z7, z8, _⟩ := area_le hd.half
  have HD := Lib.hid (And.intro hd (And.intro hd.half (And.intro q1 (And.intro q2 (And.intro m1 m2)))))
  have H0 := Lib.hid h0
  clear hd h0 hw16 hh16 hq1 hq2 q1 q2 m1 m2
  unfold frV
  go_enter Tryz.func78, Tryz.ntmps78
  go_wp2_with fail
  refine (fPRight _ d.W d.H _ d.nY k0 HD.out.1.sides HD.out.1.ny).mono ?_
  rintro e w1 ⟨rfl, hm1⟩
  have HS1 := H0.out.quiet hm1
  obtain ⟨pc, pf⟩ := (HS1.own_ 0 rfl).both
  unfold frV at pc
  have H1 := Lib.hid HS1
  clear hm1 HS1 H0
  go_wp2_with fail
  refine (fPRight _ d.W2 d.H2 _ d.nC k1 HD.out.2.1 HD.out.1.nc).mono ?_
  rintro e w2 ⟨rfl, hm1⟩
  have HS2 := H1.out.quiet hm1
  clear pc pf
  obtain ⟨pc, pf⟩ := (HS2.own_ 0 rfl).both
  unfold frV at pc
  have H2 := Lib.hid HS2
  clear hm1 HS2 H1
  go_wp2_with fail
  refine (fPRight _ d.W2 d.H2 _ d.nC k2 HD.out.2.1 HD.out.1.nc).mono ?_
  rintro e w3 ⟨rfl, hm1⟩
  have HS3 := H2.out.quiet hm1
  clear pc pf
  obtain ⟨pc, pf⟩ := (HS3.own_ 0 rfl).both
  unfold frV at pc
  have H3 := Lib.hid HS3.mod
  clear hm1 HS3 H2
  obtain ⟨_, _, q1, q2, m1, m2⟩ := HD.out
  go_wp2_with fail
  go_ret
  exact ⟨rfl, H3.out⟩
end Go.Proofs.YteppnjgfebcmjaaGreat

/-
  decoder: a block of any plane, its guess by its square's kind.
-/
namespace Go.Proofs.YteppnjgfebcmjaaGreat
open Go.RowKit

/-- What a block's guess is. -/
def gof (kind : Int) (W H : Nat) (pix apix : List UInt8) (x y pl : Nat) (vx vy : Int) (s : St) : Option (List UInt8 × St) :=
  if kind = 2 then sguess W pix x y s else some (smoved W H apix x y pl vx vy, s)
theorem dBlockAt (w : World) (bk g rb fr dg : Nat) (P : Nat → Prop) (hPg : ¬ P g) (hPb : ¬ P bk) (hPw : ∀ j, P j → j < w.heap.size) (hgb : g ≠ bk) (K : Bool) (N Q : Int) (s : St) (h : SAt w bk g P s)
    (hr : Blk w rb 110 (rdV K N Q bk g fr dg)) (hrg : rb ≠ g) (hrb : rb ≠ bk) (kind : Int)
    (W H n gq fo pl : Nat) (pix : List UInt8) (hsd : sidesB W H = true) (hn : n = W * H) (fc : Array Value) (hf : Blk w fr 37 fc) (hf0 : fc[fo]? = some (.int .i64 (W : Int))) (hf1 : fc[fo + 1]? = some (.int .i64 (H : Int))) (hf2 : fc[fo + 2]? = some (.slice (some ⟨gq, 0, none⟩) n n))
    (hpl : pl < 3) (hro : (rdV K N Q bk g fr dg)[5 + pl]? = some (.pointer (some ⟨fr, fo, none⟩)))
    (hq : Blk w gq 5 (u8s pix).toArray) (hql : pix.length = n) (hPq : ¬ P gq) (a1 : fr ≠ g) (a2 : fr ≠ bk) (a3 : gq ≠ g) (a4 : gq ≠ bk) (a5 : rb ≠ fr) (a6 : rb ≠ gq) (a7 : fr ≠ gq)
    (apix : List UInt8) (dc : Array Value) (aq ao : Nat) (hro2 : (rdV K N Q bk g fr dg)[8 + pl]? = some (.pointer (some ⟨dg, ao, none⟩)))
    (hA : kind ≠ 2 → Blk w dg 60 dc ∧ Blk w aq 5 (u8s apix).toArray ∧ dc[ao]? = some (.int .i64 (W : Int)) ∧ dc[ao + 1]? = some (.int .i64 (H : Int)) ∧ dc[ao + 2]? = some (.slice (some ⟨aq, 0, none⟩) n n) ∧ apix.length = n ∧ rb ≠ dg ∧ rb ≠ aq ∧ dg ≠ aq)
    (x y : Nat) (hx : x + 8 ≤ W) (hy : y + 8 ≤ H) (vx vy : Int) (hvx : -128 ≤ vx ∧ vx ≤ 128) (hvy : -128 ≤ vy ∧ vy ≤ 128) :
    Calls Tryz.prog 107 #[.pointer (some ⟨rb, 0, none⟩), .int .i64 kind, .agg #[.int .i64 (pl : Int), .int .i64 (x : Int), .int .i64 (y : Int)], .agg #[.int .i64 vx, .int .i64 vy]] w (BKPost w bk g gq P W x y pix (sblk (gof kind W H pix apix x y pl vx vy s) kind pl Q)) := by
  refine dBlock w bk g rb fr dg P hPg hPb hPw hgb K N Q s h hr hrg hrb kind W H n gq fo pl pix hsd hn fc hf hf0 hf2 hpl hro hq hql hPq a1 a2 a3 a4 a5 a6 a7 x y hx hy vx vy _ fun w1 hm => ?_
  have h1 := h.mod hm (fun h => h) (fun h => h) (fun _ _ h => h)
  have hr1 := hr.keep hm (fun h => h)
  have hP1 : ∀ j, P j → j < w1.heap.size := fun j hj => Nat.lt_of_lt_of_le (hPw j hj) hm.size
  unfold gof
  by_cases hk : kind = 2
  · rw [if_pos hk, hk]
    exact gOwn w1 bk g rb fr dg P hPg hPb hP1 hgb K N Q s h1 hr1 hrg hrb W H n gq fo pl pix hsd hn fc (hf.keep hm (fun h => h)) hf0 hf1 hf2 hpl hro (hq.keep hm (fun h => h)) hql a1 a2 a3 a4 a5 a6 a7 x y hx hy vx vy
  · obtain ⟨b1, b2, b3, b4, b5, b6, b7, b8, b9⟩ := hA hk
    rw [if_neg hk]
    exact gMoved w1 bk g rb fr dg P K N Q s h1 hP1 hr1 kind (by simpa using hk) W H n aq ao pl apix hsd hn dc (b1.keep hm (fun h => h)) b3 b4 b5 hpl hro2 (b2.keep hm (fun h => h)) b6 b7 b8 b9 x y hx hy vx vy hvx hvy
end Go.Proofs.YteppnjgfebcmjaaGreat
