/-
  kinoralaw18.ManifestLines, walked.
-/
import Derived.Test.YtkobngipbhjfjaaDoorMfBack
import Derived.Test.YtkobngipbhjfjaaDoorMfLinesP
import Derived.Test.YtkobngipbhjfjaaDoorMfCopy
namespace Go.Proofs.YtkobngipbhjfjaaDoor
open Go.RowKit

def LnWant (w : World) (mb : Nat) (cs : Array Value) (ls : List Ls) (v6 v7 : Value) (wr : World) : Prop := ∃ k : Nat, k ≤ ls.length ∧ v7 = .int .i64 (k : Int) ∧ v6 = .int .i64 (wantL (ls.take k) : Int) ∧ Blk wr mb 24 cs ∧ Mod (fun _ => False) w wr
def LnCount (w : World) (mb : Nat) (cs : Array Value) (t : Str) (v8 v9 : Value) (wr : World) : Prop := ∃ k : Nat, k ≤ t.length ∧ v9 = .int .i64 (k : Int) ∧ v8 = .int .i64 ((t.take k).count 10 : Int) ∧ Blk wr mb 24 cs ∧ Mod (fun _ => False) w wr
theorem count_snoc {t : Str} {k : Nat} {c : UInt8} (h : t[k]? = some c) : (t.take (k + 1)).count 10 = (t.take k).count 10 + (if c = 10 then 1 else 0) := by
  rw [take_snoc h, List.count_append]
  by_cases hc : c = 10
  · subst hc; simp
  · rw [if_neg hc]
    have : ([c] : Str).count 10 = 0 := List.count_eq_zero_of_not_mem (fun h => hc (by simpa using h : (10 : UInt8) = c).symm)
    rw [this]
set_option maxRecDepth 100000 in
set_option maxHeartbeats 8000000 in
theorem lines_walk (w : World) (m : Mf) (A : Option Addr) (n c : Nat) (h : MfIn w A n m) (he : Env w) : Calls Tryd.prog 8 #[.agg (mfV m A n c).toArray] w (BackPost w) := by
  have mA : Mod (fun _ => False) w (w.alloc (.cells (mfV m A n c).toArray 24)) := (Mod.refl _ w).alloc _
  have hb0 : Blk (w.alloc (.cells (mfV m A n c).toArray 24)) w.heap.size 24 (mfV m A n c).toArray := Blk.new _ _ _
  have H := Lib.hid (And.intro h (And.intro he (And.intro mA hb0)))
  have hln := h.rs.len
  clear h he mA hb0
  unfold mfV at H ⊢
  go_enter Tryd.func8, Tryd.ntmps8
  go_wp2_with fail
  refine (pFits _ m A n c (H.out.1.quiet H.out.2.2.1)).mono ?_
  rintro e w1 ⟨p, rfl, hm1⟩
  have c1 := (H.out.2.2.2.keep hm1 (fun h => h)).cell
  have H1 := Lib.hid (H.out.2.2.1.trans hm1)
  have K1 := Lib.hid hm1
  clear hm1
  go_wp2_with fail
  refine (pWrite _ m A n c (H.out.1.quiet H1.out) (H.out.2.1.quiet H1.out)).mono ?_
  rintro e w2 ⟨rfl, hm2⟩
  have H2 := Lib.hid (H1.out.trans hm2)
  have K2 := Lib.hid (K1.out.trans hm2)
  clear hm2 c1
  by_cases hr : rightB m = true
  · rw [show writeOut m = #[.string (strOf (writeL m)), .int .i64 0] from by unfold writeOut; rw [if_pos hr]]
    cases p with
    | false =>
      go_wp2_with fail
      refine (pAlive _ (H.out.2.1.quiet H2.out)).mono ?_
      rintro e w3 ⟨rfl, hm3⟩
      have H3 := Lib.hid (H2.out.trans hm3)
      clear hm3
      go_wp2_with fail
      go_ret
      exact ⟨rfl, H3.out⟩
    | true =>
      obtain ⟨_, ⟨h81, h82⟩, hall⟩ := right_bounds hr
      have hlen := write_len hr
      obtain ⟨t, ht⟩ : ∃ t, t = writeL m := ⟨_, rfl⟩
      rw [← ht] at hlen ⊢
      have hz := strOf_size t
      have HR := Lib.hid (And.intro hr (And.intro ht hall))
      clear hr ht hall
      have B2 := Lib.hid (H.out.2.2.2.keep K2.out (fun h => h))
      go_wp2_with fail
      go_loopw [6, 7] (LnWant w w.heap.size #[.int .i64 m.scale, .int .i64 m.tick, .slice A n c] m.rends) (fun _ s _ => n - (intOf s).toNat)
      case atStart => exact ⟨0, by omega, rfl, rfl, B2.out, H2.out⟩
      case round =>
        rename World => wr
        obtain ⟨k, hk, rfl, rfl, hbm, hM⟩ := hrel
        have cm := hbm.cell
        by_cases hlt : k < n
        · obtain ⟨l, hl⟩ : ∃ l, m.rends[k]? = some l := ⟨_, List.getElem?_eq_getElem (by omega)⟩
          obtain ⟨b, o, A1, n1, c1, hA, hb, hls⟩ := H.out.1.rs.at_ k l hl
          subst hA
          have d6 : decide ((k : Int) < (n : Int)) = true := decide_eq_true (by omega)
          have e7 := (hls.quiet hM hb).cells 7 _ rfl
          obtain ⟨_, _, _, _, _, _, _, _, hp9, _⟩ := listed_parts (HR.out.2.2 l (List.mem_of_getElem? hl))
          rw [hls.pcs.len] at hp9
          have hwn := want_snoc hl
          rw [hls.pcs.len] at hwn
          have hwb := want_le (List.all_eq_true.2 HR.out.2.2) k
          generalize wantL (m.rends.take k) = u at hwn hwb ⊢
          have HK := Lib.hid (And.intro hwn (And.intro hbm hM))
          clear hwn hbm hM hl hls
          go_wp2_with fail
          go_roundw
          case rel => exact ⟨k + 1, by omega, by go_num, by rw [HK.out.1]; go_num, HK.out.2⟩
          case measure => simp [intOf]; omega
        · obtain rfl : k = n := by omega
          have d6 : decide ((k : Int) < (k : Int)) = false := decide_eq_false (by omega)
          have hw0 : wantL (m.rends.take k) = t.count 10 := by
            rw [← hln, List.take_length, HR.out.2.1, count_text HR.out.1]
          rw [hw0]
          have HK := Lib.hid (And.intro hbm hM)
          clear hbm hM hw0
          go_wp2_with fail
          go_loopw [8, 9] (LnCount w w.heap.size #[.int .i64 m.scale, .int .i64 m.tick, .slice A k c] t) (fun _ s _ => t.length - (intOf s).toNat)
          case atStart => exact ⟨0, by omega, rfl, rfl, HK.out⟩
          case round =>
            rename World => wq
            obtain ⟨j, hj, rfl, rfl, hbm, hM⟩ := hrel
            by_cases hjl : j < t.length
            · have hc := getE hjl
              have d7 : decide ((j : Int) < (t.length : Int)) = true := decide_eq_true (by omega)
              have hx := run_index_strOf (P := Tryd.prog) (t := 9) t .i64 j _ Tryd.underlying9 hc
              generalize hcc : t[j] = ch at hc hx
              have hcs := count_snoc hc
              have hcb : (t.take j).count 10 ≤ j := by
                have := List.count_le_length (a := (10 : UInt8)) (l := t.take j)
                rw [List.length_take] at this
                omega
              generalize (t.take j).count 10 = u at hcs hcb ⊢
              have HJ := Lib.hid (And.intro hbm hM)
              clear hbm hM hc hcc
              by_cases h10 : ch = 10
              · rw [if_pos h10] at hcs
                have d8 : ((ch.toNat : Int) == 10) = true := by subst h10; rfl
                have HC := Lib.hid hcs
                clear hcs h10
                go_wp2_with fail
                go_roundw
                case rel => exact ⟨j + 1, by omega, by go_num, by rw [HC.out]; go_num, HJ.out⟩
                case measure => simp [intOf]; omega
              · rw [if_neg h10] at hcs
                have d8 : ((ch.toNat : Int) == 10) = false := beq_false_of_ne fun e => h10 (UInt8.toNat_inj.1 (by rw [show (10 : UInt8).toNat = 10 from rfl]; omega))
                have HC := Lib.hid hcs
                clear hcs h10
                go_wp2_with fail
                go_roundw
                case rel => exact ⟨j + 1, by omega, by go_num, by rw [HC.out]; go_num, HJ.out⟩
                case measure => simp [intOf]; omega
            · obtain rfl : j = t.length := by omega
              have d7 : decide ((t.length : Int) < (t.length : Int)) = false := decide_eq_false (by omega)
              rw [List.take_length]
              obtain ⟨ps, hps, hpf, hheld, hcells⟩ := rs_pick H.out.1.rs
              obtain ⟨p0, hp0⟩ : ∃ p, ps[0]? = some p := ⟨_, List.getElem?_eq_getElem (by omega)⟩
              obtain ⟨b, o, hA, hb, _⟩ := hcells 0 p0 hp0
              subst hA
              have hcl : ∀ i p, ps[i]? = some p → ∀ j v, (lsU p.1 p.2)[j]? = some v → w.cell? ⟨b, o + i * 8 + j, none⟩ = some v := fun i p hp j v hv => by
                obtain ⟨b', o', e, _, h3⟩ := hcells i p hp
                injection e with e
                injection e with e1 e2
                subst e1 e2
                exact h3 j v hv
              clear hcells
              have hQ : Mod (fun _ => False) w ((wq.alloc (.cells #[.int .i64 m.scale, .int .i64 m.tick, .slice (some ⟨b, o, none⟩) k c] 24)).alloc (.cells #[] 35)) := (hM.alloc _).alloc _
              have hsrc := src_rows (w := (wq.alloc (.cells #[.int .i64 m.scale, .int .i64 m.tick, .slice (some ⟨b, o, none⟩) k c] 24)).alloc (.cells #[] 35)) (b := b) (o := o) (ps := ps) (fun i p hp j v hv => (cellq hQ hb).trans (hcl i p hp j v hv))
              rw [hps] at hsrc
              have hown := World.ownsRow_made (wq.alloc (.cells #[.int .i64 m.scale, .int .i64 m.tick, .slice (some ⟨b, o, none⟩) k c] 24)) (base := wq.heap.size + 1) (e := 35) (size := 8) #[] 0 (by simp) (by decide) rfl
              rw [show (wq.alloc (.cells #[.int .i64 m.scale, .int .i64 m.tick, .slice (some ⟨b, o, none⟩) k c] 24)).heap.size = wq.heap.size + 1 from by simp] at hown
              have hbx : Blk ((wq.alloc (.cells #[.int .i64 m.scale, .int .i64 m.tick, .slice (some ⟨b, o, none⟩) k c] 24)).alloc (.cells #[] 35)) wq.heap.size 24 #[.int .i64 m.scale, .int .i64 m.tick, .slice (some ⟨b, o, none⟩) k c] := (Blk.new wq 24 _).alloc _
              have hbm2 : Blk ((wq.alloc (.cells #[.int .i64 m.scale, .int .i64 m.tick, .slice (some ⟨b, o, none⟩) k c] 24)).alloc (.cells #[] 35)) w.heap.size 24 #[.int .i64 m.scale, .int .i64 m.tick, .slice (some ⟨b, o, none⟩) k c] := (hbm.alloc _).alloc _
              have cm := hbm.cell
              have cm2 := hbm2.cell
              have hlw := hbm.lt
              have HJ := Lib.hid (And.intro hQ (And.intro hsrc (And.intro hown (And.intro hbx (And.intro hbm2 (And.intro hheld hpf))))))
              have HP := Lib.hid (And.intro hcl (And.intro hp0 hb))
              clear hbm hM hQ hsrc hown hbx hbm2 hheld hpf hcl hp0 hb
              obtain ⟨i0, hi0, hz0, hz1, hz2⟩ := info_parts ls_info
              have HI := Lib.hid (And.intro hi0 (And.intro hz0 (And.intro hz1 hz2)))
              clear hi0 hz0 hz1 hz2
              go_upto_region 18 with (at_builtin; have _t := HJ; refine wpList_append_src _ rfl _ _ 22 rfl (wq.heap.size + 1) 35 i0 _ 8 96 Tryd.underlying22 HI.out.1 HI.out.2.1 HI.out.2.2.1 HI.out.2.2.2 rfl (by omega) _ 0 [] rfl HJ.out.2.2.1 (some ⟨b, o, none⟩) k c (rowC ps) rfl HJ.out.2.1 (fun h => by cases h) (rowC_one HJ.out.2.2.2.2.2.1) (by unfold maxLen; omega) (by omega) (by simp) ?_; intro v5 w5 hw1 hw2 hw3; rw [Nat.zero_add, List.nil_append] at hw1; have hM5 := (Mod.refl (fun j => (Value.slice (some ⟨wq.heap.size + 1, 0, none⟩) 0 0).ownBlock = some j) _).grown hw2 (fun k hk => .inl hk); have hbx5 := HJ.out.2.2.2.1.keep hM5 (by simp [Value.ownBlock]); have hbm5 := HJ.out.2.2.2.2.1.keep hM5 (by simp [Value.ownBlock]; omega); have hQ5 := HJ.out.1.then_ hM5 (fun i hi hs => by simp [Value.ownBlock] at hs; omega); have H5 := Lib.hid (And.intro hw1 (And.intro hQ5 (And.intro hbx5 hbm5))); clear hw1 hw2 hw3 hM5 hbx5 hbm5 hQ5; refine Hid.out ?_)
              refine Lib.hid ?_
              obtain ⟨g, cap, cur, rfl, hg, hbk, hcap, hcm, hcs, hct⟩ := own_some H5.out.1 (by omega)
              have gx := H5.out.2.2.1.cell
              have gf := H5.out.2.2.1.frozen
              have hnx : ¬ w.heap.size = wq.heap.size := by omega
              have hgx : ¬ g = wq.heap.size := by omega
              have hbx6 : Blk (w5.setCell ⟨wq.heap.size, 2, none⟩ (.slice (some ⟨g, 0, none⟩) k cap)) wq.heap.size 24 #[.int .i64 m.scale, .int .i64 m.tick, .slice (some ⟨g, 0, none⟩) k cap] := H5.out.2.2.1.put rfl
              have hbm6 := H5.out.2.2.2.far (p := ⟨wq.heap.size, 2, none⟩) hnx (.slice (some ⟨g, 0, none⟩) k cap)
              have hbk6 := hbk.far (p := ⟨wq.heap.size, 2, none⟩) hgx (.slice (some ⟨g, 0, none⟩) k cap)
              have hQ6 : Mod (fun _ => False) w (w5.setCell ⟨wq.heap.size, 2, none⟩ (.slice (some ⟨g, 0, none⟩) k cap)) := H5.out.2.1.setCell (.inr (by show w.heap.size ≤ wq.heap.size; omega)) _
              obtain ⟨q, hq⟩ : ∃ q : Nat, (k : Int) - 1 = (q : Int) := ⟨k - 1, by omega⟩
              obtain ⟨pz, hpz⟩ : ∃ p, ps[q]? = some p := ⟨_, List.getElem?_eq_getElem (by omega)⟩
              have hcur8 : k * 8 ≤ cur.toList.length := by rw [Array.length_toList, hcs]; omega
              have H6 := Lib.hid (And.intro (And.intro hbx6 hbm6) (And.intro hbk6 (And.intro hQ6 (And.intro (And.intro hg (And.intro hcap (And.intro hcm (And.intro hcs hct)))) hpz))))
              have gx6 := hbx6.cell
              have gm6 := hbm6.cell
              clear hbx6 hbm6 hbk6 hQ6 hg hcap hcm hcs hct hpz hbk
              generalize hw6 : w5.setCell ⟨wq.heap.size, 2, none⟩ (.slice (some ⟨g, 0, none⟩) k cap) = w6 at H6 gx6 gm6
              go_upto_region 18 with (fail)
              have hz6 : ∀ j v, (lsU pz.1 pz.2)[j]? = some v → w6.cell? ⟨b, o + q * 8 + j, none⟩ = some v := fun j v hv => (cellq H6.out.2.2.1 HP.out.2.2).trans (HP.out.1 q pz H6.out.2.2.2.2 j v hv)
              have e0 : w6.drew.cell? ⟨b, o + q * 8 + 0, none⟩ = _ := hz6 0 _ rfl
              have e1 : w6.drew.cell? ⟨b, o + q * 8 + 1, none⟩ = _ := hz6 1 _ rfl
              have e2 : w6.drew.cell? ⟨b, o + q * 8 + 2, none⟩ = _ := hz6 2 _ rfl
              have e3 : w6.drew.cell? ⟨b, o + q * 8 + 3, none⟩ = _ := hz6 3 _ rfl
              have e4 : w6.drew.cell? ⟨b, o + q * 8 + 4, none⟩ = _ := hz6 4 _ rfl
              have e5 : w6.drew.cell? ⟨b, o + q * 8 + 5, none⟩ = _ := hz6 5 _ rfl
              have e6 : w6.drew.cell? ⟨b, o + q * 8 + 6, none⟩ = _ := hz6 6 _ rfl
              have e7 : w6.drew.cell? ⟨b, o + q * 8 + 7, none⟩ = _ := hz6 7 _ rfl
              rw [Nat.add_zero] at e0
              have gx6d : ∀ i, w6.drew.cell? ⟨wq.heap.size, i, none⟩ = _ := gx6
              have gm6d : ∀ i, w6.drew.cell? ⟨w.heap.size, i, none⟩ = _ := gm6
              clear hz6
              have hqk : q < k := by omega
              have hk1 : 0 < k := by omega
              go_upto_region 19 with (fail)
              refine wp_region_plan [8] [] [0, 1, 2, 3, 4, 5, 6, 7, 8] (by kernel_rfl) (by kernel_rfl) (fun _ _ _ d _ h => by cases d <;> exact h) ?_
              iterate 8 (refine plan_still rfl rfl (fun K hK => ?_); go_simp; refine hK _ ?_; clear hK K)
              refine plan_loud rfl rfl (fun K hK => ?_)
              refine step_store_part rfl 35 (.tmp 74) (.tmp 73) rfl g 0 (lsU pz.1 pz.2) rfl rfl 35 cur.toList H6.out.2.1.drew (by kernel_rfl) (by rw [lsU_len pz]; omega) (rowC_one HJ.out.2.2.2.2.2.1 |> fun h u hu => h u (List.mem_flatMap.2 ⟨pz, List.mem_of_getElem? H6.out.2.2.2.2, hu⟩)) ?_
              intro w7 hb7 hm7
              refine hK _ _ ?_
              clear hK K
              refine plan_done ?_
              have hx7 := H6.out.1.1.drew.keep hm7 (Ne.symm hgx)
              have hm7b := H6.out.1.2.drew.keep hm7 (by have := H6.out.2.2.2.1.1; omega)
              have hQ7 := H6.out.2.2.1.drew.then_ hm7 (fun i hi e => by have := H6.out.2.2.2.1.1; omega)
              have own7 := own_splice (xs := rowC ps) (n := k) (size := 8) (cur := cur.toList) (cells := lsU pz.1 pz.2) (off := 0 * 8) (by rw [rowC_len, hps]) H6.out.2.2.2.1.1 (by rw [Nat.zero_mul]; exact hb7) H6.out.2.2.2.1.2.1 H6.out.2.2.2.1.2.2.1 (by rw [Array.length_toList]; exact H6.out.2.2.2.1.2.2.2.1) H6.out.2.2.2.1.2.2.2.2 (by rw [rowC_len, lsU_len pz]; omega)
              rw [splice_rows pz (by omega)] at own7
              obtain ⟨g7, cap7, cur7, e7', hg7, hbk7, hcap7, hcm7, hcs7, hct7⟩ := own_some own7 (by omega)
              injection e7' with e7a _ e7c
              injection e7a with e7a
              injection e7a with e7a
              subst e7a e7c
              have hcur87 : k * 8 ≤ cur7.toList.length := by rw [Array.length_toList, hcs7]; omega
              have H7 := Lib.hid (And.intro (And.intro hx7 hm7b) (And.intro hbk7 (And.intro hQ7 (And.intro hg7 (And.intro hcap7 (And.intro hcm7 (And.intro hcs7 hct7)))))))
              have gx7 := hx7.cell
              have gm7 := hm7b.cell
              clear hx7 hm7b hbk7 hQ7 hg7 hcap7 hcm7 hcs7 hct7 own7 hb7 hm7 e0 e1 e2 e3 e4 e5 e6 e7 gx6 gm6 gx6d gm6d
              have hz7 : ∀ j v, (lsU p0.1 p0.2)[j]? = some v → w7.cell? ⟨b, o + 0 * 8 + j, none⟩ = some v := fun j v hv => (cellq H7.out.2.2.1 HP.out.2.2).trans (HP.out.1 0 p0 HP.out.2.1 j v hv)
              rw [Nat.zero_mul, Nat.add_zero] at hz7
              have e0 : w7.drew.cell? ⟨b, o + 0, none⟩ = _ := hz7 0 _ rfl
              have e1 : w7.drew.cell? ⟨b, o + 1, none⟩ = _ := hz7 1 _ rfl
              have e2 : w7.drew.cell? ⟨b, o + 2, none⟩ = _ := hz7 2 _ rfl
              have e3 : w7.drew.cell? ⟨b, o + 3, none⟩ = _ := hz7 3 _ rfl
              have e4 : w7.drew.cell? ⟨b, o + 4, none⟩ = _ := hz7 4 _ rfl
              have e5 : w7.drew.cell? ⟨b, o + 5, none⟩ = _ := hz7 5 _ rfl
              have e6 : w7.drew.cell? ⟨b, o + 6, none⟩ = _ := hz7 6 _ rfl
              have e7 : w7.drew.cell? ⟨b, o + 7, none⟩ = _ := hz7 7 _ rfl
              rw [Nat.add_zero] at e0
              have gx7d : ∀ i, w7.drew.cell? ⟨wq.heap.size, i, none⟩ = _ := gx7
              have gm7d : ∀ i, w7.drew.cell? ⟨w.heap.size, i, none⟩ = _ := gm7
              clear hz7
              go_upto_region 20 with (fail)
              refine wp_region_plan [8] [] [0, 1, 2, 3, 4, 5, 6, 7, 8] (by kernel_rfl) (by kernel_rfl) (fun _ _ _ d _ h => by cases d <;> exact h) ?_
              iterate 8 (refine plan_still rfl rfl (fun K hK => ?_); go_simp; refine hK _ ?_; clear hK K)
              refine plan_loud rfl rfl (fun K hK => ?_)
              refine step_store_part rfl 35 (.tmp 82) (.tmp 81) rfl g (q * 8) (lsU p0.1 p0.2) (by simp [Act.eval]) rfl 35 cur7.toList H7.out.2.1.drew (by kernel_rfl) (by rw [lsU_len p0]; omega) (rowC_one HJ.out.2.2.2.2.2.1 |> fun h u hu => h u (List.mem_flatMap.2 ⟨p0, List.mem_of_getElem? HP.out.2.1, hu⟩)) ?_
              intro w8 hb8 hm8
              refine hK _ _ ?_
              clear hK K
              refine plan_done ?_
              have hx8 := H7.out.1.1.drew.keep hm8 (Ne.symm hgx)
              have hm8b := H7.out.1.2.drew.keep hm8 (by have := H7.out.2.2.2.1; omega)
              have hQ8 := H7.out.2.2.1.drew.then_ hm8 (fun i hi e => by have := H7.out.2.2.2.1; omega)
              have own8 := own_splice (xs := rowC (ps.set 0 pz)) (n := k) (size := 8) (cur := cur7.toList) (cells := lsU p0.1 p0.2) (off := q * 8) (by rw [rowC_len, List.length_set, hps]) H7.out.2.2.2.1 hb8 H7.out.2.2.2.2.1 H7.out.2.2.2.2.2.1 (by rw [Array.length_toList]; exact H7.out.2.2.2.2.2.2.1) H7.out.2.2.2.2.2.2.2 (by rw [rowC_len, List.length_set, lsU_len p0]; omega)
              rw [splice_rows p0 (by rw [List.length_set]; omega)] at own8
              have hrs := rows_in own8 hb8.lt (fun p hp => by
                have hz : Held w p := by
                  rcases List.mem_or_eq_of_mem_set hp with h1 | rfl
                  · rcases List.mem_or_eq_of_mem_set h1 with h2 | rfl
                    · exact HJ.out.2.2.2.2.2.1 _ h2
                    · exact HJ.out.2.2.2.2.2.1 _ (List.mem_of_getElem? H6.out.2.2.2.2)
                  · exact HJ.out.2.2.2.2.2.1 _ (List.mem_of_getElem? HP.out.2.1)
                exact hz.quiet hQ8)
              have hsw : ((ps.set 0 pz).set q p0).map Prod.fst = swapL m.rends p0.1 pz.1 := by
                unfold swapL
                rw [List.map_set, List.map_set, HJ.out.2.2.2.2.2.2, hln, show k - 1 = q by omega]
              rw [hsw] at hrs
              have hf0 : m.rends[0]? = some p0.1 := by rw [← HJ.out.2.2.2.2.2.2, List.getElem?_map, HP.out.2.1]; rfl
              have hz0 : m.rends[m.rends.length - 1]? = some pz.1 := by rw [hln, show k - 1 = q by omega, ← HJ.out.2.2.2.2.2.2, List.getElem?_map, H6.out.2.2.2.2]; rfl
              have hpm := swap_perm hf0 hz0
              obtain ⟨x, hx⟩ : ∃ x : Mf, x = ⟨m.scale, m.tick, swapL m.rends p0.1 pz.1⟩ := ⟨_, rfl⟩
              have hxr : rightB x = true := by rw [hx]; exact right_perm (b := m) rfl rfl hpm HR.out.1
              have hxl : (writeL x).length = t.length := by rw [hx, HR.out.2.1]; exact write_perm (b := m) rfl rfl hpm
              have hxa : alignO x = alignO m := by rw [hx]; exact align_perm (b := m) rfl rfl hpm HR.out.1
              have hxt : (writeL x = t) ↔ q = 0 := by
                rw [hx, HR.out.2.1, swap_text HR.out.1 hf0 hz0]
                omega
              have hxi : MfIn w8 (some ⟨g, 0, none⟩) k x := by rw [hx]; exact ⟨H.out.1.nums, hrs⟩
              have hxs : x.scale = m.scale := by rw [hx]
              have hxk : x.tick = m.tick := by rw [hx]
              rw [← hxs, ← hxk] at hx8
              have H8 := Lib.hid (And.intro hx8 (And.intro hm8b (And.intro hQ8 (And.intro hxi (And.intro hxr (And.intro hxl (And.intro hxa hxt)))))))
              have gx8 := hx8.cell
              have hlx : (strOf (writeL x)).size = t.length := by rw [strOf_size, hxl]
              clear hx8 hm8b hQ8 own8 hrs hsw hf0 hz0 hpm hxr hxl hxa hxt hxi hxs hxk hx hb8 hm8 e0 e1 e2 e3 e4 e5 e6 e7 gx7 gm7 gx7d gm7d cm cm2 gx gf
              have HZ := Lib.hid (And.intro hlx hq)
              clear hlx hq hnx hgx hqk hcur8 hcur87
              go_upto_region 21 with (fail)
              go_wp2_with fail
              refine (pWrite _ x (some ⟨g, 0, none⟩) k cap H8.out.2.2.2.1 (H.out.2.1.quiet H8.out.2.2.1)).mono ?_
              rintro e w9 ⟨rfl, hm9⟩
              rw [show writeOut x = #[.string (strOf (writeL x)), .int .i64 0] from by unfold writeOut; rw [if_pos H8.out.2.2.2.2.1]]
              have hb9 := H8.out.2.1.keep hm9 (fun h => h)
              have hx9 := H8.out.1.keep hm9 (fun h => h)
              have H9 := Lib.hid (And.intro (H8.out.2.2.1.trans hm9) (And.intro hb9 (And.intro hx9 (H8.out.2.2.2.1.quiet hm9))))
              clear hm9 hb9 hx9 gx8
              have hts : ((strOf (writeL x)).toList == (strOf t).toList) = decide (q = 0) := by
                rw [str_beq]
                exact decide_eq_decide.2 H8.out.2.2.2.2.2.2.2
              have hq0 : ((q : Int) == 0) = decide (q = 0) := by
                by_cases h0 : q = 0
                · subst h0; rfl
                · rw [decide_eq_false h0]
                  exact beq_false_of_ne (by omega)
              have hlx := HZ.out.1
              go_upto_region 22 with (fail)
              refine wp_region_planS [0, 27, 29] [28] (0 :: 1 :: 2 :: 3 :: 4 :: 5 :: 6 :: 7 :: 8 :: 9 :: 10 :: 11 :: 12 :: 13 :: 14 :: 15 :: 16 :: 17 :: 18 :: 19 :: 20 :: 21 :: 22 :: 23 :: 24 :: 25 :: 26 :: 28 :: 27 :: 29 :: 30 :: 31 :: 32 :: []) (fun w' => Blk w' w.heap.size 24 #[.int .i64 m.scale, .int .i64 m.tick, .slice (some ⟨b, o, none⟩) k c]) (by kernel_rfl) (by kernel_rfl) (fun _ _ _ d _ h => by cases d <;> exact h) H9.out.2.1.drew ?_
              refine planS_loud rfl rfl (fun K hK => ?_)
              go_simp
              refine (pAlive _ (H.out.2.1.quiet H9.out.1.drew)).mono ?_
              rintro e w10 ⟨rfl, hm10⟩
              have hb10 := H9.out.2.1.drew.keep hm10 (fun h => h)
              have hx10 := H9.out.2.2.1.drew.keep hm10 (fun h => h)
              have H10 := Lib.hid (And.intro (H9.out.1.drew.trans hm10) (And.intro hb10 (And.intro hx10 (H9.out.2.2.2.quiet ((Mod.refl (fun _ => False) w9).drew.trans hm10)))))
              dsimp only []
              refine hK _ _ hb10 ?_
              clear hK K hm10 hb10
              have gx10 := hx10.cell
              clear hx10
              iterate 26 (refine planS_still rfl rfl (fun K hK => ?_); go_simp; refine hK _ ?_; clear hK K)
              refine planS_pure (v := .agg #[.int .i64 m.scale, .int .i64 m.tick, .slice (some ⟨b, o, none⟩) k c]) rfl rfl rfl (fun w' hS => ?_) ?_
              · have cS := hS.cell
                go_simp
              refine planS_loud rfl rfl (fun K hK => ?_)
              go_simp
              refine (pAlign _ x (some ⟨g, 0, none⟩) k cap H10.out.2.2.2).mono ?_
              rintro e w11 ⟨rfl, hm11⟩
              rw [H8.out.2.2.2.2.2.2.1]
              dsimp only []
              have H11 := Lib.hid (H10.out.1.trans hm11)
              have H11k := Lib.hid hm11
              refine hK _ _ (H10.out.2.1.keep hm11 (fun h => h)) ?_
              clear hK K hm11 gx10
              refine planS_loud rfl rfl (fun K hK => ?_)
              go_simp
              refine (pAlign _ m (some ⟨b, o, none⟩) k c (H.out.1.quiet H11.out)).mono ?_
              rintro e w12 ⟨rfl, hm12⟩
              dsimp only []
              have H12 := Lib.hid (H11.out.trans hm12)
              refine hK _ _ ((H10.out.2.1.keep H11k.out (fun h => h)).keep hm12 (fun h => h)) ?_
              clear hK K hm12
              iterate 3 (refine planS_still rfl rfl (fun K hK => ?_); go_simp; refine hK _ ?_; clear hK K)
              refine planS_done ?_
              go_wp2_with fail
              go_ret
              exact ⟨rfl, H12.out⟩
  · rw [show writeOut m = #[.string (strOf []), .int .i64 181] from by unfold writeOut; rw [if_neg hr]]
    clear hr
    cases p with
    | false =>
      go_wp2_with fail
      refine (pAlive _ (H.out.2.1.quiet H2.out)).mono ?_
      rintro e w3 ⟨rfl, hm3⟩
      have H3 := Lib.hid (H2.out.trans hm3)
      clear hm3
      go_wp2_with fail
      go_ret
      exact ⟨rfl, H3.out⟩
    | true =>
      go_wp2_with fail
      refine (pAlive _ (H.out.2.1.quiet H2.out)).mono ?_
      rintro e w3 ⟨rfl, hm3⟩
      have H3 := Lib.hid (H2.out.trans hm3)
      clear hm3
      go_wp2_with fail
      go_ret
      exact ⟨rfl, H3.out⟩
end Go.Proofs.YtkobngipbhjfjaaDoor
