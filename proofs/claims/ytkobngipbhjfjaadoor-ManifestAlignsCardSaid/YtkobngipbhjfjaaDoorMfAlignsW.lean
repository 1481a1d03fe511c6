/-
  kinoralaw18.ManifestAligns, walked.
-/
import Derived.Test.YtkobngipbhjfjaaDoorMfAlB
import Derived.Test.YtkobngipbhjfjaaDoorMfR6
import Derived.Test.YtkobngipbhjfjaaDoorMfR7
import Derived.Test.YtkobngipbhjfjaaDoorPlanT
namespace Go.Proofs.YtkobngipbhjfjaaDoor
open Go.RowKit

def framesI (l : List Int) : List Int := l.map fun v => 1 + bits .and .i64 v 31
theorem framesI_ok {l : List Int} (h : l.length ≤ 10) : FsOk (framesI l) := by
  refine ⟨by simp [framesI]; exact h, fun f hf => ?_⟩
  unfold framesI at hf
  rw [List.mem_map] at hf
  obtain ⟨v, _, rfl⟩ := hf
  have := and31 v
  omega
theorem frames_32 {l : List Int} {p : Nat} {f : Int} (h : (framesI l)[p]? = some f) : 1 ≤ f ∧ f ≤ 32 := by
  unfold framesI at h
  rw [List.getElem?_map] at h
  obtain ⟨v, _, rfl⟩ := Option.map_eq_some_iff.1 h
  have := and31 v
  omega
def AgRel18 (w : World) (mb nb : Nat) (mc rc : Array Value) (fs : List Int) (v7 v8 : Value) (wr : World) : Prop := ∃ (i : Nat) (u : Value), i ≤ fs.length ∧ v8 = .int .i64 (i : Int) ∧ AgSt w mb nb mc rc v7 u (fs.take i) wr
set_option maxRecDepth 100000 in
set_option maxHeartbeats 8000000 in
theorem aligns_walk (w : World) (A : Option Addr) (n c : Nat) (l : List Int) (other : Int) (hin : IntsIn w A n c l) (hl64 : ∀ x ∈ l, I64 x) (he : Env w) (hn : n ≤ 9223372036854775807) : Calls Tryd.prog 7 #[.slice A n c, .int .i64 other] w fun e w' => e = .returned (.bool true) ∧ Mod (fun _ => False) w w' := by
  have HE := Lib.hid he
  clear he
  by_cases hsz : n < 1 ∨ 10 < n
  · have d0 : n < 1 → decide ((n : Int) < 1) = true := fun h => decide_eq_true (by omega)
    cases d1 : decide ((n : Int) < 1) with
    | true =>
      clear d0
      go_enter Tryd.func7, Tryd.ntmps7
      go_wp2_with fail
      refine (pAlive _ HE.out).mono ?_
      rintro e w1 ⟨rfl, hm1⟩
      have H1 := Lib.hid hm1
      clear hm1
      go_wp2_with fail
      go_ret
      exact ⟨rfl, H1.out⟩
    | false =>
      have d2 : decide ((10 : Int) < (n : Int)) = true := decide_eq_true (by have := of_decide_eq_false d1; omega)
      clear d0
      go_enter Tryd.func7, Tryd.ntmps7
      go_wp2_with fail
      refine (pAlive _ HE.out).mono ?_
      rintro e w1 ⟨rfl, hm1⟩
      have H1 := Lib.hid hm1
      clear hm1
      go_wp2_with fail
      go_ret
      exact ⟨rfl, H1.out⟩
  have hn1 : 1 ≤ n := by omega
  have hn10 : n ≤ 10 := by omega
  have d1 : decide ((n : Int) < 1) = false := decide_eq_false (by omega)
  have d2 : decide ((10 : Int) < (n : Int)) = false := decide_eq_false (by omega)
  clear hsz
  obtain ⟨b, off, hA, hbl, hcell⟩ := hin.place (by omega)
  subst hA
  have hll := hin.1
  have hfo := framesI_ok (l := l) (by omega)
  have hfl : (framesI l).length = n := by unfold framesI; rw [List.length_map]; exact hll
  have HI := Lib.hid (And.intro hin (And.intro hl64 (And.intro hbl (And.intro hcell (And.intro hfo hll)))))
  clear hin hl64 hbl hcell hfo
  go_enter Tryd.func7, Tryd.ntmps7
  go_wp2_with fail
  refine (pSmallB _).mono ?_
  rintro e w1 ⟨rfl, hrb, hws, hm1⟩
  obtain ⟨mc, hmc⟩ : ∃ mc : Array Value, mc = #[.int .i64 30, .int .i64 1, .slice (some ⟨w.heap.size + 1 + 1, 0, none⟩) 1 1] := ⟨_, rfl⟩
  have mM : ∀ nc : Array Value, Mod (fun _ => False) w1 ((w1.alloc (.cells mc 24)).alloc (.cells nc 35)) := fun nc => ((Mod.refl _ w1).alloc _).alloc _
  have bM : ∀ nc : Array Value, Blk ((w1.alloc (.cells mc 24)).alloc (.cells nc 35)) w1.heap.size 24 mc := fun nc => (Blk.new w1 24 mc).alloc _
  have bN : ∀ nc : Array Value, Blk ((w1.alloc (.cells mc 24)).alloc (.cells nc 35)) (w1.heap.size + 1) 35 nc := fun nc => by
    have := Blk.new (w1.alloc (.cells mc 24)) 35 nc
    rwa [show (w1.alloc (.cells mc 24)).heap.size = w1.heap.size + 1 from by simp] at this
  have hst : AgSt w w1.heap.size (w1.heap.size + 1) mc (lsV smallL (some ⟨w.heap.size + 1, 0, none⟩) 1 1).toArray (.slice none 0 0) (.slice none 0 0) [] ((w1.alloc (.cells mc 24)).alloc (.cells (lsU (loL []) (.slice none 0 0)).toArray 35)) :=
    ⟨World.ownsRow_nil _ _ _ _, World.ownsRow_nil _ _ _ _, bM _, hrb.keep (mM _) (fun h => h), bN _, (fun _ h => by cases h), hm1.trans (mM _)⟩
  have HS := Lib.hid hst
  have HM := Lib.hid hmc
  rw [hmc] at HS
  have HWS := Lib.hid hws
  clear hrb hst mM bM bN hmc hws
  rw [show mfV smallM (some ⟨w.heap.size + 1 + 1, 0, none⟩) 1 1 = [.int .i64 30, .int .i64 1, .slice (some ⟨w.heap.size + 1 + 1, 0, none⟩) 1 1] from rfl]
  go_wp2_with fail
  go_loopw [7, 8] (AgRel18 w w1.heap.size (w1.heap.size + 1) #[.int .i64 30, .int .i64 1, .slice (some ⟨w.heap.size + 1 + 1, 0, none⟩) 1 1] (lsV smallL (some ⟨w.heap.size + 1, 0, none⟩) 1 1).toArray (framesI l)) (fun _ s _ => n - (intOf s).toNat)
  case atStart => exact ⟨0, _, by omega, rfl, HS.out⟩
  case round =>
    rename World => wr
    obtain ⟨i, u, hi, rfl, hst⟩ := hrel
    by_cases hlt : i < n
    · obtain ⟨v, hv⟩ : ∃ v, v = l.getD i 0 := ⟨_, rfl⟩
      have hci : wr.cell? ⟨b, off + i, none⟩ = some (.int .i64 v) := (cellq hst.old HI.out.2.2.1).trans (hv ▸ HI.out.2.2.2.1 i hlt)
      have d3 : decide ((i : Int) < (n : Int)) = true := decide_eq_true (by omega)
      have h31 := and31 v
      obtain ⟨k, hk⟩ : ∃ k, bits .and .i64 v 31 = k := ⟨_, rfl⟩
      rw [hk] at h31
      obtain ⟨h310, h311⟩ := h31
      have hfi : (framesI l)[i]? = some (1 + k) := by
        unfold framesI
        rw [List.getElem?_map, List.getElem?_eq_getElem (by omega), ← hk, hv, List.getD_eq_getElem?_getD, List.getElem?_eq_getElem (by omega)]
        rfl
      have hlh : (pcsFrom kHi 0 ((framesI l).take i)).length = i := by rw [pcs_len, List.length_take]; omega
      have hll2 : (pcsFrom kLo 0 ((framesI l).take i)).length = i := by rw [pcs_len, List.length_take]; omega
      obtain ⟨A7, c7, hv7⟩ := own_shape hst.hi
      obtain ⟨Au, cu, hvu⟩ := own_shape hst.lo
      rw [hlh] at hv7
      rw [hll2] at hvu
      subst hv7
      subst hvu
      have hdi : Lib.decDigits i = [UInt8.ofNat (48 + i)] := dec1 (by omega)
      obtain ⟨d, hd⟩ : ∃ d, d = UInt8.ofNat (48 + i) := ⟨_, rfl⟩
      rw [← hd] at hdi
      have hsn := fun pre => pcs_snoc pre (1 + k) 0 ((framesI l).take i)
      have hti : ((framesI l).take i).length = i := by rw [List.length_take]; omega
      rw [hti] at hsn
      simp only [Nat.zero_add, hdi] at hsn
      have z1 : (strOf [d]).size = 1 := strOf_size _
      have z3 : (⟨#[108, 111, 47]⟩ : ByteArray) ++ strOf [d] = strOf [108, 111, 47, d] := strOf_cat [108, 111, 47] [d]
      have z2 : (⟨#[104, 105, 47]⟩ : ByteArray) ++ strOf [d] = strOf [104, 105, 47, d] := strOf_cat [104, 105, 47] [d]
      have HR := Lib.hid (And.intro hst (And.intro hfi (And.intro hsn (And.intro hdi (And.intro hlh (And.intro hll2 hst.old.size))))))
      clear hst hfi hsn hdi hd hv hti hlh hll2
      go_wp2_with fail
      refine (rDigits _ i (by omega)).mono ?_
      rintro e w2 ⟨rfl, rfl⟩
      rw [HR.out.2.2.2.1]
      go_upto_region 11 with (at_builtin; have _t := HR; refine wpList_app_pc _ rfl (.tmp 39) (.tmp 45) rfl w.heap.size _ _ ⟨1 + k, 1, [104, 105, 47, d]⟩ rfl rfl HR.out.1.hi HR.out.2.2.2.2.2.2 (by rw [HR.out.2.2.2.2.1]; omega) ?_; intro v8 w8 hown8 hMo hM8 hfr8; have HO := Lib.hid (And.intro hown8 (And.intro hMo (And.intro (hM8 w (fun _ => False) (Nat.le_refl _) HR.out.1.old) hfr8))); clear hown8 hMo hM8 hfr8)
      have hnb8 := HR.out.1.nblk.keep HO.out.2.1 (own_ne_blk HR.out.1.hi HR.out.1.nblk (by decide))
      have hmb8 := HR.out.1.mblk.keep HO.out.2.1 (own_ne_blk HR.out.1.hi HR.out.1.mblk (by decide))
      have hrb8 := HR.out.1.rblk.keep HO.out.2.1 (own_ne_blk HR.out.1.hi HR.out.1.rblk (by decide))
      have hlo8 : PcsOwn w8 w.heap.size (.slice Au i cu) (pcsFrom kLo 0 ((framesI l).take i)) := own_mod HR.out.1.lo HO.out.2.1 (fun g hg e => HR.out.1.apart g e hg)
      have hap8 : ∀ g, v8.ownBlock = some g → (Value.slice Au i cu).ownBlock ≠ some g := fun g hg hu => by
        rcases HO.out.2.2.2 g hg with h1 | h1
        · exact HR.out.1.apart g h1 hu
        · obtain ⟨_, cs, hb⟩ := own_blk HR.out.1.lo hu
          have := hb.lt
          omega
      have hD : ∀ w, Calls Tryd.prog 24 #[.int .i64 (i : Int)] w fun e w' => e = .returned (.string (strOf [d])) ∧ w = w' := fun w => by have := rDigits w i (by omega); rwa [HR.out.2.2.2.1] at this
      have HD := Lib.hid hD
      have HP := Lib.hid (And.intro hnb8 (And.intro hmb8 (And.intro hrb8 (And.intro hlo8 hap8))))
      clear hnb8 hmb8 hrb8 hlo8 hap8 hD
      refine wp_region_planT [7, 8, 10] [0, 1] (2 :: 3 :: 4 :: 5 :: 6 :: 0 :: 1 :: 7 :: 8 :: 9 :: 10 :: []) (fun w' => Blk w' (w1.heap.size + 1) 35 (lsU (loL []) (.slice Au i cu)).toArray) (by kernel_rfl) (by kernel_rfl) (fun _ _ _ d _ h => by cases d <;> exact h) HP.out.1.drew ?_
      iterate 2 (refine planT_still rfl rfl (fun K hK => ?_); go_simp; refine hK _ ?_; clear hK K)
      refine planT_still rfl rfl (fun K hK => ?_)
      go_simp
      refine ⟨_, (HD.out _).mono (fun _ _ ⟨a, b⟩ => ⟨a, b.symm⟩), hK _ ?_⟩
      clear hK K
      iterate 2 (refine planT_still rfl rfl (fun K hK => ?_); go_simp; refine hK _ ?_; clear hK K)
      refine planT_read (v := .pointer (some ⟨w1.heap.size + 1, 7, none⟩)) rfl rfl rfl (fun _ _ => rfl) (fun K hK => ?_); go_simp; refine hK _ ?_; clear hK K
      refine planT_read (v := .slice Au i cu) rfl rfl rfl (fun w' hS => ?_) (fun K hK => ?_)
      · have cS := hS.cell 7
        unfold lsU at cS
        go_simp
      go_simp
      refine hK _ ?_
      clear hK K
      refine planT_loud rfl rfl (fun K hK => ?_)
      go_simp
      refine hK _ _ (HP.out.1.drew.alloc _) ?_
      clear hK K
      refine planT_loud rfl rfl (fun K hK => ?_)
      have hgs8 : w.heap.size ≤ w8.drew.heap.size := HO.out.2.2.1.size
      refine step_app_pc w8.drew rfl (.tmp 48) (.tmp 54) rfl w.heap.size (.slice Au i cu) (pcsFrom kLo 0 ((framesI l).take i)) ⟨1 + k, 1, [108, 111, 47, d]⟩ rfl rfl (own_mod HP.out.2.2.2.1 ((Mod.refl (fun _ => False) w8).drew) (fun _ _ h => h)) hgs8 (by rw [HR.out.2.2.2.2.2.1]; omega) ?_
      intro u9 w9 hown9 hMo9 hM9 hfr9
      have hlo8d : PcsOwn w8.drew w.heap.size (.slice Au i cu) (pcsFrom kLo 0 ((framesI l).take i)) := own_mod HP.out.2.2.2.1 ((Mod.refl (fun _ => False) w8).drew) (fun _ _ h => h)
      have hhi8d : PcsOwn w8.drew w.heap.size v8 (pcsFrom kHi 0 ((framesI l).take i) ++ [⟨1 + k, 1, [104, 105, 47, d]⟩]) := own_mod HO.out.1 ((Mod.refl (fun _ => False) w8).drew) (fun _ _ h => h)
      have nb9 := HP.out.1.drew.keep hMo9 (own_ne_blk hlo8d HP.out.1.drew (by decide))
      have mb9 := HP.out.2.1.drew.keep hMo9 (own_ne_blk hlo8d HP.out.2.1.drew (by decide))
      have rb9 := HP.out.2.2.1.drew.keep hMo9 (own_ne_blk hlo8d HP.out.2.2.1.drew (by decide))
      have hi9 := own_mod hhi8d hMo9 (fun g hg e => HP.out.2.2.2.2 g hg e)
      have mS : Mod (· = w1.heap.size + 1) w9 (w9.setCell ⟨w1.heap.size + 1, 7, none⟩ u9) := (Mod.refl (· = w1.heap.size + 1) w9).setCell (p := ⟨w1.heap.size + 1, 7, none⟩) (.inl rfl) _
      have hws := HWS.out
      have hst9 : AgSt w w1.heap.size (w1.heap.size + 1) #[.int .i64 30, .int .i64 1, .slice (some ⟨w.heap.size + 1 + 1, 0, none⟩) 1 1] (lsV smallL (some ⟨w.heap.size + 1, 0, none⟩) 1 1).toArray v8 u9 ((framesI l).take (i + 1)) (w9.setCell ⟨w1.heap.size + 1, 7, none⟩ u9) := by
        refine ⟨?_, ?_, mb9.keep mS (by omega), rb9.keep mS (by omega), nb9.put rfl, ?_, ?_⟩
        · rw [take_snoc HR.out.2.1, HR.out.2.2.1]
          exact own_mod hi9 mS (fun g hg e => own_ne_blk hi9 nb9 (by decide) (by rw [hg, e]))
        · rw [take_snoc HR.out.2.1, HR.out.2.2.1]
          exact own_mod hown9 mS (fun g hg e => own_ne_blk hown9 nb9 (by decide) (by rw [hg, e]))
        · intro g hg hu
          rcases hfr9 g hu with h1 | h1
          · exact HP.out.2.2.2.2 g hg h1
          · obtain ⟨_, cs, hb⟩ := own_blk hhi8d hg
            have := hb.lt
            omega
        · exact (hM9 w (fun _ => False) (Nat.le_refl _) HO.out.2.2.1.drew).into mS (fun j e => .inr (by omega))
      obtain ⟨A9, n9, c9, hv9⟩ := own_form hown9
      subst hv9
      obtain ⟨gc, gf⟩ := nb9.both
      have HF := Lib.hid hst9
      refine hK _ _ nb9 ?_
      clear hK K hst9 mS hi9 rb9 mb9 nb9 hhi8d hlo8d hown9 hMo9 hM9 hfr9 hws
      unfold lsU at gc
      iterate 1 (refine planT_still rfl rfl (fun K hK => ?_); go_simp; refine hK _ ?_; clear hK K)
      refine planT_last (by kernel_rfl) rfl (fun K hK => ?_)
      go_simp
      refine hK _ _ ?_
      clear hK K
      refine planT_done ?_
      go_wp2_with fail
      go_roundw
      case rel => exact ⟨i + 1, _, by omega, by go_num, HF.out⟩
      case measure => simp [intOf]; omega
    · obtain rfl : i = n := by omega
      have d3 : decide ((i : Int) < (i : Int)) = false := decide_eq_false (by omega)
      rw [List.take_of_length_le (by omega)] at hst
      have hlh : (pcsFrom kHi 0 (framesI l)).length = i := by rw [pcs_len, hfl]
      have hll2 : (pcsFrom kLo 0 (framesI l)).length = i := by rw [pcs_len, hfl]
      obtain ⟨A7, c7, hv7⟩ := own_shape hst.hi
      obtain ⟨Au, cu, hvu⟩ := own_shape hst.lo
      rw [hlh] at hv7
      rw [hll2] at hvu
      subst hv7
      subst hvu
      have hws := HWS.out
      have hT1 := AgT.start hst HI.out.2.2.2.2.1 (by omega) rfl
      have cm := hst.mblk.cell
      obtain ⟨gc, gf⟩ := hst.rblk.both
      have HF := Lib.hid HI.out.2.2.2.2.1
      have HL := Lib.hid (And.intro hfl (And.intro hlh (And.intro hll2 hws)))
      have H1 := Lib.hid hT1
      have cm1 := hT1.mblk.cell
      clear hst hT1 hws hfl hlh hll2
      unfold lsV at gc
      go_wp2_with fail
      refine (pAlign _ _ _ 1 1 (H1.out.in_ (by simp))).mono ?_
      rintro e w2 ⟨rfl, hm2⟩
      rw [show alignO ⟨30, 1, List.map Prod.fst [(hiL (framesI l), Value.slice A7 i c7)]⟩ = 0 from one_align HF.out (by rw [HL.out.1]; exact hn1)]
      have H2 := Lib.hid (H1.out.quiet hm2)
      clear hm2 cm cm1 gc gf
      have cm2 := H2.out.mblk.cell
      have cn2 := H2.out.nblk.cell
      unfold lsU at cn2
      obtain ⟨i0, hi0, hz0, hz1, hz2⟩ := info_parts ls_info
      have HZ := Lib.hid (And.intro hi0 (And.intro hz0 (And.intro hz1 hz2)))
      clear hi0 hz0 hz1 hz2
      have hq2 := lo_own H2.out.un_ HF.out
      have HQ := Lib.hid hq2
      clear hq2
      go_wp2_with (at_builtin; have _t := H2; refine wpList_append_src _ rfl (.tmp 65) (.tmp 67) 22 rfl w.heap.size 35 i0 _ 8 96 Tryd.underlying22 HZ.out.1 HZ.out.2.1 HZ.out.2.2.1 HZ.out.2.2.2 rfl (by omega) (.slice (some ⟨w.heap.size + 1 + 1, 0, none⟩) 1 1) 1 (rowC [(hiL (framesI l), .slice A7 i c7)]) rfl (own_mod H2.out.row ((Mod.refl (fun _ => False) w2).alloc _) (fun _ _ h => h)) (some ⟨w2.heap.size, 0, none⟩) 1 1 (lsU (loL (framesI l)) (.slice Au i cu)) rfl (Src.new w2 35 (lsU (loL (framesI l)) (.slice Au i cu))) (fun h => by cases h) (lsU_one _ _ rfl) (by unfold maxLen; omega) (by omega) (by rw [World.size_alloc]; have := H2.out.old.size; omega) ?_; intro v3 w3 hw1 hw2 hw3; have HA := Lib.hid (And.intro hw1 (And.intro hw2 hw3)); clear hw1 hw2 hw3; refine Hid.out ?_)
      refine Lib.hid ?_
      have hM3 : Mod (fun j => (Value.slice (some ⟨w.heap.size + 1 + 1, 0, none⟩) 1 1).ownBlock = some j) w2 w3 := ((Mod.refl _ _).alloc _).grown HA.out.2.1 (fun k hk => .inl hk)
      obtain ⟨g2, c2, hv3, hT3⟩ := AgT.more (W' := w3) H2.out (by simp) (by simp) HQ.out HA.out.1 hM3 (fun j hj => by
        rcases HA.out.2.2 with h3 | h3
        · rw [h3] at hj
          have hj : some (w.heap.size + 1 + 1) = some j := hj
          injection hj with hj
          exact .inl hj.symm
        · rw [h3] at hj
          injection hj with hj
          rw [World.size_alloc] at hj
          exact .inr (by omega))
      subst hv3
      have hmb3 := H2.out.mblk.keep hM3 (fun h => by
        have hj : some (w.heap.size + 1 + 1) = some w1.heap.size := h
        injection hj with hj
        have := HL.out.2.2.2
        omega)
      obtain ⟨gc, gf⟩ := hmb3.both
      have H3 := Lib.hid hT3
      have cm3 := hT3.mblk.cell
      clear HA hM3 hT3 hmb3 cm2 cn2
      go_wp2_with fail
      refine (pAlign _ _ _ 2 c2 (H3.out.in_ (by simp))).mono ?_
      rintro e w4 ⟨rfl, hm4⟩
      rw [show alignO ⟨30, 1, List.map Prod.fst ([(hiL (framesI l), Value.slice A7 i c7)] ++ [(loL (framesI l), Value.slice Au i cu)])⟩ = 0 from by
        have := two_align HF.out (by rw [HL.out.1]; exact hn1) HF.out (by rw [HL.out.1]; exact hn1)
        rw [if_pos rfl] at this
        exact this]
      have H4 := Lib.hid (H3.out.quiet hm4)
      clear hm4 cm3 gc gf
      have h10 := and1023 other
      obtain ⟨q, hq⟩ : ∃ q, bits .and .i64 other 1023 = q := ⟨_, rfl⟩
      rw [hq] at h10
      obtain ⟨h100, h101⟩ := h10
      obtain ⟨p, hp⟩ : ∃ p : Nat, p = (q % (i : Int)).toNat := ⟨_, rfl⟩
      have hpm := Int.emod_nonneg q (show (i : Int) ≠ 0 by omega)
      have hpl := Int.emod_lt_of_pos q (show 0 < (i : Int) by omega)
      have t3 : q % (i : Int) = (p : Int) := by omega
      have t1 : q.tmod (i : Int) = (p : Int) := by rw [Int.tmod_eq_emod_of_nonneg h100]; exact t3
      have hpn : p < i := by omega
      have hi0 : ((i : Int) == 0) = false := by simp; omega
      clear hpm hpl hp
      obtain ⟨gu, hvu1⟩ : ∃ gu, Au = some ⟨gu, 0, none⟩ := by
        obtain ⟨gu, capu, curu, hvu, _⟩ := own_some H4.out.un_ (by rw [HL.out.2.2.1]; omega)
        injection hvu with hvu1 hvu2 hvu3
        exact ⟨_, hvu1⟩
      subst hvu1
      have cn4 := (H4.out.nblk.alloc (.cells #[] 32)).cell
      unfold lsU at cn4
      have hown4 := World.ownsRow_made w4 (base := w.heap.size) (e := 32) (size := 3) #[] 0 H4.out.old.size (by decide) rfl
      have hsrc4 := (Src.of_own (own_mod H4.out.un_ ((Mod.refl (fun _ => False) w4).alloc (.cells #[] 32)) (fun _ _ h => h))).2
      rw [HL.out.2.2.1] at hsrc4
      have HO4 := Lib.hid (And.intro hown4 hsrc4)
      obtain ⟨j0, hj0, hy0, hy1, hy2⟩ := info_parts pc_info
      have HY := Lib.hid (And.intro hj0 (And.intro hy0 (And.intro hy1 hy2)))
      clear hj0 hy0 hy1 hy2 hown4 hsrc4
      go_wp2_with (at_builtin; have _t := HO4; refine wpList_append_src _ rfl (.tmp 77) (.tmp 79) 33 rfl w.heap.size 32 j0 _ 3 32 Tryd.underlying33 HY.out.1 HY.out.2.1 HY.out.2.2.1 HY.out.2.2.2 rfl (by omega) (.slice (some ⟨w4.heap.size, 0, none⟩) 0 0) 0 [] rfl HO4.out.1 (some ⟨gu, 0, none⟩) i cu ((pcsFrom kLo 0 (framesI l)).flatMap pcV) rfl HO4.out.2 (fun h => by cases h) (fun u hu => by obtain ⟨y, _, hy⟩ := List.mem_flatMap.1 hu; exact pcV_one y u hy) (by unfold maxLen; omega) (by omega) (by rw [World.size_alloc]; have := H4.out.old.size; omega) ?_; intro v5 w5 hw1 hw2 hw3; have HA := Lib.hid (And.intro hw1 (And.intro hw2 hw3)); clear hw1 hw2 hw3; refine Hid.out ?_)
      refine Lib.hid ?_
      have hM5 : Mod (fun j => (Value.slice (some ⟨w4.heap.size, 0, none⟩) 0 0).ownBlock = some j) (w4.alloc (.cells #[] 32)) w5 := (Mod.refl _ _).grown HA.out.2.1 (fun k hk => .inl hk)
      have hM45 : Mod (fun _ => False) w4 w5 := ((Mod.refl (fun _ => False) w4).alloc _).into hM5 (fun j e => .inr (by
        have e : some w4.heap.size = some j := e
        injection e with e
        omega))
      have hA1 := HA.out.1
      rw [Nat.zero_add, List.nil_append] at hA1
      obtain ⟨g3, c3, hv5⟩ : ∃ g3 c3, v5 = .slice (some ⟨g3, 0, none⟩) i c3 := by
        obtain ⟨g3, c3, _, hv5, _⟩ := own_some hA1 (by omega)
        exact ⟨_, _, hv5⟩
      subst hv5
      have hg3 : w4.heap.size ≤ g3 := by
        rcases HA.out.2.2 with h3 | h3
        · have h3 : some g3 = some w4.heap.size := h3
          injection h3 with h3
          omega
        · have h3 : some g3 = some (w4.alloc (.cells #[] 32)).heap.size := h3
          injection h3 with h3
          rw [World.size_alloc] at h3
          omega
      have hu3 : PcsOwn w5 w.heap.size (.slice (some ⟨g3, 0, none⟩) i c3) (pcsFrom kLo 0 (framesI l)) := by
        unfold PcsOwn
        rw [HL.out.2.2.1]
        exact hA1
      have hmn : w1.heap.size ≠ w1.heap.size + 1 := by omega
      have hT5 := AgT.box (H4.out.quiet hM45) hmn (by simp) hu3
      obtain ⟨gc, gf⟩ := (H4.out.nblk.keep hM45 (fun h => h)).both
      have hsep : g2 ≠ g3 ∧ (∀ x ∈ [(hiL (framesI l), Value.slice A7 i c7)] ++ [(loL (framesI l), Value.slice (some ⟨gu, 0, none⟩) i cu)], ∀ j, x.2.ownBlock = some j → j ≠ g3) := by
        constructor
        · obtain ⟨cur, hb, _⟩ := H4.out.blk (by simp)
          have := hb.lt
          omega
        · intro x hx j hj
          obtain ⟨_, cs, hb⟩ := own_blk (H4.out.own x hx).1 hj
          have := hb.lt
          omega
      have H5 := Lib.hid (And.intro hT5 hsep)
      have HG := Lib.hid (And.intro hg3 hmn)
      clear HA hM5 hM45 hA1 hu3 hg3 hT5 hsep cn4 hmn
      unfold lsU at gc
      go_upto_region 18 with (fail)
      obtain ⟨W5, hW5⟩ : ∃ W5, W5 = w5.setCell ⟨w1.heap.size + 1, 7, none⟩ (.slice (some ⟨g3, 0, none⟩) i c3) := ⟨_, rfl⟩
      rw [← hW5] at H5 ⊢
      clear gc gf hW5
      obtain ⟨f, hf⟩ : ∃ f, (framesI l)[p]? = some f := ⟨_, List.getElem?_eq_getElem (by rw [HL.out.1]; exact hpn)⟩
      have hf32 := frames_32 hf
      have hT6 := H5.out.1.piece H5.out.2.2 hf (f + 1)
      obtain ⟨⟨cur5, hb5⟩, q5⟩ := pcs_here H5.out.1.un_ hf
      have gf5 := hb5.frozen
      have cn5 := H5.out.1.nblk.cell
      unfold lsU at cn5
      obtain ⟨f1, f2⟩ := hf32
      have hok6 : FsOk ((framesI l).set p (f + 1)) := by
        refine ⟨by rw [List.length_set]; exact HF.out.1, fun x hx => ?_⟩
        rcases List.mem_or_eq_of_mem_set hx with h | h
        · exact HF.out.2 x h
        · omega
      have H6 := Lib.hid (And.intro hT6 (And.intro hok6 hf))
      clear hT6 hok6 hf hb5
      go_upto_region 19 with (fail)
      obtain ⟨W6, hW6⟩ : ∃ W6, W6 = W5.setCell ⟨g3, p * 3, none⟩ (.int .i64 (f + 1)) := ⟨_, rfl⟩
      rw [← hW6] at H6 ⊢
      clear hW6 gf5 cn5 q5 cur5
      obtain ⟨cur6, hb6, hc1, hc2, hc3, hc4, hc5⟩ := H6.out.1.blk (by simp)
      have hb6l : 16 ≤ cur6.length := by
        have : 2 ≤ c2 := hc1
        omega
      have HB6 := Lib.hid (And.intro hb6 hb6l)
      clear hb6 hc1 hc2 hc3 hc4 hc5 hb6l
      have cn6 := H6.out.1.nblk.cell
      have cm6 := H6.out.1.mblk.cell
      unfold lsU at cn6
      go_wp2_with (refine wpList_store_part rfl 35 (.tmp 94) (.tmp 93) rfl g2 (1 * 8) (lsU (loL []) (.slice (some ⟨g3, 0, none⟩) i c3)) rfl rfl 35 cur6 HB6.out.1 (by kernel_rfl) (by have := HB6.out.2; simp [lsU]; omega) (lsU_one _ _ rfl) ?_; intro w7 hw1 hw2; have HA := Lib.hid (And.intro hw1 hw2); clear hw1 hw2; refine Hid.out ?_)
      refine Lib.hid ?_
      have hT7 : AgT w w1.heap.size (w1.heap.size + 1) g2 c2 [(hiL (framesI l), Value.slice A7 i c7), (loL ((framesI l).set p (f + 1)), Value.slice (some ⟨g3, 0, none⟩) i c3)] (.slice (some ⟨g3, 0, none⟩) i c3) ((framesI l).set p (f + 1)) w7 := AgT.place (i := 1) (q := (loL ((framesI l).set p (f + 1)), Value.slice (some ⟨g3, 0, none⟩) i c3)) H6.out.1 (by simp) (by simp) (lo_own H6.out.1.un_ H6.out.2.1) HB6.out.1 HA.out.1 HA.out.2
      have H7 := Lib.hid hT7
      have cm7 := hT7.mblk.cell
      clear HA hT7 HB6 cn6 cm6 cur6
      go_wp2_with fail
      refine (pAlign _ _ _ 2 c2 (H7.out.in_ (by simp))).mono ?_
      rintro e w8 ⟨rfl, hm8⟩
      rw [show alignO ⟨30, 1, List.map Prod.fst [(hiL (framesI l), Value.slice A7 i c7), (loL ((framesI l).set p (f + 1)), Value.slice (some ⟨g3, 0, none⟩) i c3)]⟩ = 182 from by
        have := two_align HF.out (by rw [HL.out.1]; exact hn1) H6.out.2.1 (by rw [List.length_set, HL.out.1]; exact hn1)
        rw [if_neg (fun e => by
          have h1 := H6.out.2.2
          rw [e, List.getElem?_set_self (by rw [HL.out.1]; exact hpn)] at h1
          injection h1 with h1
          omega)] at this
        exact this]
      have H8 := Lib.hid (H7.out.quiet hm8)
      clear hm8 cm7
      have hfs : ((framesI l).set p (f + 1))[p]? = some (f + 1) := List.getElem?_set_self (by rw [HL.out.1]; exact hpn)
      have hback : ((framesI l).set p (f + 1)).set p f = framesI l := by
        rw [List.set_set]
        have h1 := H6.out.2.2
        obtain ⟨h2, h3⟩ := List.getElem?_eq_some_iff.1 h1
        rw [← h3]
        exact List.set_getElem_self h2
      have hT9 := H8.out.piece2 (fun k hk => H5.out.2.2 (hiL (framesI l), Value.slice A7 i c7) (by simp) k hk) hfs f (by rw [hback]; exact HF.out)
      rw [hback] at hT9
      obtain ⟨⟨cur8, hb8⟩, q8⟩ := pcs_here H8.out.un_ hfs
      have gf8 := hb8.frozen
      have cn8 := H8.out.nblk.cell
      unfold lsU at cn8
      have hff : f + 1 - 1 = f := by omega
      have hcap3 : i ≤ c3 := by
        obtain ⟨g', cap, cur, hv, h1, h2, h3, h4, h5, h6⟩ := own_some H5.out.1.un_ (by rw [HL.out.2.2.1]; omega)
        injection hv with e1 e2 e3
        rw [HL.out.2.2.1] at h3
        omega
      have H9 := Lib.hid hT9
      clear hT9 hfs hback hb8
      go_upto_region 22 with (fail)
      obtain ⟨W9, hW9⟩ : ∃ W9, W9 = w8.setCell ⟨g3, p * 3, none⟩ (.int .i64 f) := ⟨_, rfl⟩
      rw [← hW9] at H9 ⊢
      clear hW9 gf8 cn8 q8 cur8 hff
      obtain ⟨m, hm⟩ : ∃ m : Nat, (i : Int) - 1 = (m : Int) := ⟨i - 1, by omega⟩
      have hmi : i = m + 1 := by omega
      have hmc : m ≤ c3 := by omega
      have hmc2 : (m : Int) ≤ (c3 : Int) := by omega
      have hu4 : PcsOwn W9 w.heap.size (.slice (some ⟨g3, 0, none⟩) m c3) (pcsFrom kLo 0 ((framesI l).take m)) := by
        rw [pcs_take]
        exact pcs_less H9.out.un_ (by rw [HL.out.2.2.1]; omega) (by rw [HL.out.2.2.1]; omega)
      have hT10 := AgT.box H9.out HG.out.2 (by simp) hu4
      obtain ⟨gc, gf⟩ := H9.out.nblk.both
      have H10 := Lib.hid hT10
      have HMI := Lib.hid hmi
      clear hT10 hu4 hmi
      unfold lsU at gc
      go_upto_region 23 with (fail)
      obtain ⟨W10, hW10⟩ : ∃ W10, W10 = W9.setCell ⟨w1.heap.size + 1, 7, none⟩ (.slice (some ⟨g3, 0, none⟩) m c3) := ⟨_, rfl⟩
      rw [← hW10] at H10 ⊢
      clear hW10 gc gf
      obtain ⟨cur10, hb10, hc1, hc2, hc3, hc4, hc5⟩ := H10.out.blk (by simp)
      have hb10l : 16 ≤ cur10.length := by
        have : 2 ≤ c2 := hc1
        omega
      have HB10 := Lib.hid (And.intro hb10 hb10l)
      clear hb10 hc1 hc2 hc3 hc4 hc5 hb10l
      have cn10 := H10.out.nblk.cell
      have cm10 := H10.out.mblk.cell
      unfold lsU at cn10
      have hok10 : FsOk ((framesI l).take m) := ⟨by rw [List.length_take]; have := HF.out.1; omega, fun x hx => HF.out.2 x (List.mem_of_mem_take hx)⟩
      have HOK := Lib.hid hok10
      clear hok10
      go_wp2_with (refine wpList_store_part rfl 35 (.tmp 116) (.tmp 115) rfl g2 (1 * 8) (lsU (loL []) (.slice (some ⟨g3, 0, none⟩) m c3)) rfl rfl 35 cur10 HB10.out.1 (by kernel_rfl) (by have := HB10.out.2; simp [lsU]; omega) (lsU_one _ _ rfl) ?_; intro w11 hw1 hw2; have HA := Lib.hid (And.intro hw1 hw2); clear hw1 hw2; refine Hid.out ?_)
      refine Lib.hid ?_
      have hT11 : AgT w w1.heap.size (w1.heap.size + 1) g2 c2 [(hiL (framesI l), Value.slice A7 i c7), (loL ((framesI l).take m), Value.slice (some ⟨g3, 0, none⟩) m c3)] (.slice (some ⟨g3, 0, none⟩) m c3) ((framesI l).take m) w11 := AgT.place (i := 1) (q := (loL ((framesI l).take m), Value.slice (some ⟨g3, 0, none⟩) m c3)) H10.out (by simp) (by simp) (lo_own H10.out.un_ HOK.out) HB10.out.1 HA.out.1 HA.out.2
      have H11 := Lib.hid hT11
      have cm11 := hT11.mblk.cell
      clear HA hT11 HB10 cn10 cm10 cur10
      go_wp2_with fail
      refine (pAlign _ _ _ 2 c2 (H11.out.in_ (by simp))).mono ?_
      rintro e w12 ⟨rfl, hm12⟩
      have H12 := Lib.hid (H11.out.old.trans hm12)
      clear hm12 cm11
      by_cases hm0 : m = 0
      · subst hm0
        rw [show alignO ⟨30, 1, List.map Prod.fst [(hiL (framesI l), Value.slice A7 i c7), (loL ((framesI l).take 0), Value.slice (some ⟨g3, 0, none⟩) 0 c3)]⟩ = 181 from none_align (framesI l)]
        have d9 : ((i : Int) == 1) = true := by have := HMI.out; simp; omega
        go_wp2_with fail
        refine (pAlive _ (HE.out.quiet H12.out)).mono ?_
        rintro e w13 ⟨rfl, hm13⟩
        have H13 := Lib.hid (H12.out.trans hm13)
        clear hm13
        go_wp2_with fail
        go_ret
        exact ⟨rfl, H13.out⟩
      · rw [show alignO ⟨30, 1, List.map Prod.fst [(hiL (framesI l), Value.slice A7 i c7), (loL ((framesI l).take m), Value.slice (some ⟨g3, 0, none⟩) m c3)]⟩ = 182 from by
          have h0 := HL.out.1
          have h1 := HMI.out
          have := two_align HF.out (by rw [h0]; exact hn1) HOK.out (by rw [List.length_take, h0]; omega)
          rw [if_neg (fun e => by
            have h2 := congrArg List.length e
            rw [List.length_take, h0] at h2
            omega)] at this
          exact this]
        go_wp2_with fail
        refine (pAlive _ (HE.out.quiet H12.out)).mono ?_
        rintro e w13 ⟨rfl, hm13⟩
        have H13 := Lib.hid (H12.out.trans hm13)
        clear hm13
        go_wp2_with fail
        go_ret
        exact ⟨rfl, H13.out⟩
end Go.Proofs.YtkobngipbhjfjaaDoor
