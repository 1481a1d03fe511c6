/-
  kinoralaw21.NetworkOnce: the walk.
-/
import Derived.Test.YtblllengohabjaaNetOnceP
namespace Go.Proofs.Ytblllengohabjaa
open Go.RowKit

theorem int_info : (Try.prog.info? 3).map (fun i => (i.zero, i.size, i.bytes)) = some (some (.int .i64 0), 1, 8) := by kernel_rfl
def netA (_ : TypeId) : Bool := true

def OnceRel1 (w : World) (g n : Nat) (l : List Int) (v i : Value) (wr : World) : Prop :=
  ∃ (k : Nat) (P : List Pk), k ≤ n ∧ k ≤ 100 ∧ i = .int .i64 k ∧ wr.ownsRow w.heap.size 3 1 v k (dueCells l k) ∧ NetIs wr w.heap.size g 0 k P [] ∧ OncePk l k P ∧ TMod w.heap.size netA w wr

/-- The array of those that came. -/
def CameIs (wr : World) (cb : Nat) (came : Nat → Bool) : Prop := ∃ cs : Array Value, Blk wr cb 46 cs ∧ cs.size = 100 ∧ ∀ i < 100, cs[i]? = some (.bool (came i))
theorem CameIs.cell {wr : World} {cb : Nat} {came : Nat → Bool} (h : CameIs wr cb came) (i : Nat) (hi : i < 100) : wr.cell? ⟨cb, i, none⟩ = some (.bool (came i)) ∧ wr.frozen? ⟨cb, i, none⟩ = false := by
  obtain ⟨cs, hb, _, hc⟩ := h
  exact ⟨(hb.cell i).trans (hc i hi), hb.frozen i⟩
theorem CameIs.tmod {wr w' : World} {cb B : Nat} {T : TypeId → Bool} {came : Nat → Bool} (h : CameIs wr cb came) (hm : TMod B T wr w') (hT : T 46 = false) : CameIs w' cb came := by
  obtain ⟨cs, hb, h2, hc⟩ := h
  exact ⟨cs, hb.tmod hm hT, h2, hc⟩
theorem CameIs.set {wr : World} {cb : Nat} {came : Nat → Bool} (h : CameIs wr cb came) (i : Nat) : CameIs (wr.setCell ⟨cb, i, none⟩ (.bool true)) cb (fun j => if j = i then true else came j) := by
  obtain ⟨cs, hb, h2, hc⟩ := h
  refine ⟨_, hb.set_ i _, by simpa using h2, fun j hj => ?_⟩
  dsimp only
  by_cases e : j = i
  · subst e
    rw [if_pos rfl, Array.getElem?_setIfInBounds_self_of_lt (by omega)]
  · rw [if_neg e, Array.getElem?_setIfInBounds_ne (Ne.symm e)]
    exact hc j hj

def came0 : Array Value := Array.replicate 100 (.bool false)
theorem zero_came (w : World) : (zeroValue 46).run Try.prog w = .ok (.agg came0) w := by kernel_rfl
theorem came_start (w : World) : CameIs (w.alloc (.cells came0 46)) w.heap.size (fun _ => false) := ⟨came0, Blk.new _ _ _, by simp [came0], fun i hi => by simp [came0, hi]⟩

def OnceRel2 (w : World) (g cb m : Nat) (l : List Int) (v : Value) (got t : Value) (wr : World) : Prop :=
  ∃ (k : Nat) (P : List Pk) (came : Nat → Bool) (gt : Nat), k ≤ 32 ∧ t = .int .i64 k ∧ got = .int .i64 gt ∧ wr.ownsRow w.heap.size 3 1 v m (dueCells l m) ∧ NetIs wr w.heap.size g k m P [] ∧ CameIs wr cb came ∧ Inv l m k P came (-1) gt ∧ TMod w.heap.size netA w wr

/-- Behind a Next: nothing more of tick k; or one. -/
def OnceRel3 (w : World) (g cb m k : Nat) (l : List Int) (v : Value) (got last b is : Value) (wr : World) : Prop :=
  ∃ (P : List Pk) (came : Nat → Bool) (gt : Nat) (la : Int), got = .int .i64 gt ∧ last = .int .i64 la ∧ wr.ownsRow w.heap.size 3 1 v m (dueCells l m) ∧ NetIs wr w.heap.size g k m P [] ∧ CameIs wr cb came ∧ TMod w.heap.size netA w wr ∧
    ((is = .bool false ∧ Inv l m (k + 1) P came (-1) gt) ∨ (∃ p : Pk, is = .bool true ∧ b = p.data ∧ Bytes wr w.heap.size p.data p.bytes ∧ Inv l m k (p :: P) came la gt ∧ p.due ≤ k ∧ ∀ q ∈ P, plt q p = false))

theorem once_next {w wr w' : World} {g cb m k gt : Nat} {l : List Int} {v : Value} {P : List Pk} {came : Nat → Bool} {la : Int} {e : Ending} (hrow : wr.ownsRow w.heap.size 3 1 v m (dueCells l m)) (hc : CameIs wr cb came) (hi : Inv l m k P came la gt) (hT : TMod w.heap.size netA w wr) (hnet : NetIs wr w.heap.size g k m P [])
    (h : NextPost wr w.heap.size g 0 k m P [] e w') : ∃ b is, e = .returned (.tuple #[b, is]) ∧ OnceRel3 w g cb m k l v (.int .i64 gt) (.int .i64 la) b is w' := by
  rcases h with ⟨rfl, ⟨n6, rfl⟩, hall⟩ | ⟨p, P', rfl, hpm, hmin, hdue, hn, hby, hT'⟩
  · have M : Mod (fun _ => False) wr (wr.drewN n6) := (Mod.refl _ _).drewN _
    have T0 : TMod 0 (fun _ => false) wr (wr.drewN n6) := .of_quiet M
    exact ⟨_, _, rfl, P, came, gt, la, rfl, rfl, own_tmod hrow T0 rfl, hnet.quiet M, hc.tmod T0 rfl, hT.drewN _, .inl ⟨rfl, hi.none_ hall⟩⟩
  · have hpm' : P.Perm (p :: P') := hpm
    exact ⟨_, _, rfl, P', came, gt, la, rfl, rfl, own_tmod hrow hT' (by decide), hn, hc.tmod hT' (by decide), hT.trans (hT'.mono (fun _ _ => rfl)), .inr ⟨p, rfl, rfl, hby, hi.perm hpm', hdue, fun q hq => hmin q (hpm'.mem_iff.2 (List.mem_cons_of_mem _ hq))⟩⟩

theorem lit_one (w : World) (B k : Nat) (hk : k < 256) : ArgBytes (w.alloc (.cells #[.int .u8 (k : Int)] 5)) B (some ⟨w.heap.size, 0, none⟩) 1 1 [UInt8.ofNat k] := by
  have e : (UInt8.ofNat k).toNat = k := by rw [UInt8.toNat_ofNat']; omega
  have := lit_arg w B [UInt8.ofNat k] (0, 0)
  rw [show u8s [UInt8.ofNat k] = [.int .u8 (k : Int)] by simp [u8s, e]] at this
  exact this

set_option maxRecDepth 100000 in
set_option maxHeartbeats 4000000 in
theorem networkOnce_walk (A : Option Addr) (n c : Nat) (l : List Int) (w : World) (hl : Ints w A n l) (hn : n ≤ 9223372036854775807) :
    Calls Try.prog 4 #[.slice A n c] w fun e w' => e = .returned (.bool true) ∧ Below w.heap.size w w' := by
  obtain ⟨i0, hi0, hz0, hz1, hz2⟩ := info_parts int_info
  have HA := Lib.hid hl.2
  clear hl
  go_enter Try.func4, Try.ntmps4
  go_wp2_with fail
  refine (netNew w w.heap.size (Nat.le_refl _)).mono ?_
  rintro e w1 ⟨rfl, hn1, hm1, hsz⟩
  clear hsz
  have T1 : TMod w.heap.size netA w w1 := .of_quiet hm1
  obtain ⟨g, hg⟩ : ∃ g, g = w.heap.size := ⟨_, rfl⟩
  rw [show NetIs w1 w.heap.size w.heap.size 0 0 [] [] = NetIs w1 w.heap.size g 0 0 [] [] by rw [hg]] at hn1
  rw [← hg]
  have hgw : w.heap.size ≤ g := by omega
  clear hg hm1
  go_wp2_with fail
  go_loopw [4, 5] (OnceRel1 w g n l) (fun _ i _ => 100 - (intOf i).toNat)
  case atStart => exact ⟨0, [], by omega, by omega, rfl, World.ownsRow_nil _ _ _ _, hn1, ⟨(fun p hp => by cases hp), List.nodup_nil, rfl⟩, T1⟩
  case round =>
    clear hn1 T1
    obtain ⟨k, P, hk, hk2, rfl, hrow, hnet, hP, T⟩ := hrel
    have HP := Lib.hid hP
    clear hP
    by_cases hlt : k < n ∧ k < 100
    · obtain ⟨hl1, hl2⟩ := hlt
      obtain ⟨b, off, rfl, hc⟩ := HA.out (by omega)
      have hbl : b < w.heap.size := World.block_lt_of_cell? w _ (hc k hl1)
      have hck : wr.cell? ⟨b, off + k, none⟩ = some (.int .i64 (nth l k)) := (World.cell?_of_block (T.low b hbl hbl)).trans (hc k hl1)
      have hand : bits BinOp.and IntKind.i64 (nth l k) 31 = dlOf l k := i64_and31 _
      have hdb := dlOf_bd l k
      clear hc
      go_wp2_with fail
      have hn2 : NetIs (wr.alloc (.cells #[.int .u8 (k : Int)] 5)) w.heap.size g 0 k P [] := hnet.quiet ((Mod.refl _ _).alloc _)
      have hrow2 : (wr.alloc (.cells #[.int .u8 (k : Int)] 5)).ownsRow w.heap.size 3 1 u4 k (dueCells l k) := own_mod hrow ((Mod.refl (fun _ => False) _).alloc _) (fun _ _ h => h)
      have T2 := T.alloc (.cells #[.int .u8 (k : Int)] 5)
      have ar2 := lit_one wr w.heap.size k (by omega)
      have e1 : sendNews 0 k 0 (dlOf l k) 0 [UInt8.ofNat k] = [(dlOf l k, (k : Int), [UInt8.ofNat k])] := by unfold sendNews; rw [if_neg (by omega), if_neg (by omega), bentL_whole _ _ _ (by omega) (by omega), Int.zero_add]
      have c1 := netSend _ w.heap.size g 0 0 k P [] hn2 0 (dlOf l k) 0 _ 1 1 [UInt8.ofNat k] ar2 (by omega) (by omega) (.inl rfl) (fate_side 0 (.inl rfl) _ _ (by omega) (by omega)) (by rw [e1, HP.out.2.2]; simp; omega) (by omega)
      rw [e1] at c1
      refine c1.mono ?_
      clear c1 e1 ar2 hck hand hn2 hnet hrow T
      rintro e w3 ⟨rfl, ns, hns, hnet3, T3, _⟩
      have hP3 := HP.out.one hns
      have hrow3 := own_tmod hrow2 T3 (by decide)
      have T3' : TMod w.heap.size netA w w3 := T2.trans (T3.mono (fun _ _ => rfl))
      have hnet3' : NetIs w3 w.heap.size g 0 ((k + 1 : Nat) : Int) (P ++ ns) [] := hnet3
      obtain ⟨A4, c4, rfl⟩ := own_shape hrow3
      have ho : (w3.alloc (.cells #[.int .i64 (dlOf l k)] 3)).ownsRow w.heap.size 3 1 (.slice A4 k c4) k (dueCells l k) := own_mod hrow3 ((Mod.refl (fun _ => False) _).alloc _) (fun _ _ h => h)
      have hs4 : Src (w3.alloc (.cells #[.int .i64 (dlOf l k)] 3)) 1 (some ⟨w3.heap.size, 0, none⟩) 1 [.int .i64 (dlOf l k)] := Src.new w3 3 [.int .i64 (dlOf l k)]
      have x1 : k + 1 ≤ maxLen := by unfold maxLen; omega
      have x2 : (k + 1) * 8 ≤ 140737488355328 := by omega
      have x3 : w.heap.size ≤ (w3.alloc (.cells #[.int .i64 (dlOf l k)] 3)).heap.size := by have := T3'.size; simp; omega
      have HX := Lib.hid (And.intro x1 (And.intro x2 (And.intro x3 (And.intro hs4 ho))))
      have HN := Lib.hid (And.intro hnet3' (And.intro T3' hP3))
      clear x1 x2 x3 hs4 ho hnet3' T3' hP3 hns hnet3 T3 hrow3 T2 hrow2
      go_wp2_with (at_builtin; have _t := HX; refine wpList_append_src _ rfl (.tmp 37) (.tmp 39) _ rfl w.heap.size 3 i0 _ 1 8 Try.underlying45 hi0 hz0 hz1 hz2 rfl (by omega) (.slice A4 k c4) k (dueCells l k) rfl HX.out.2.2.2.2 (some ⟨w3.heap.size, 0, none⟩) 1 1 [.int .i64 (dlOf l k)] rfl HX.out.2.2.2.1 (fun h => by cases h) (fun u hu => by rw [List.mem_singleton.1 hu]; rfl) HX.out.1 HX.out.2.1 HX.out.2.2.1 ?_; intro v5 w5 hown5 hg5 hat5; have HO := Lib.hid (And.intro hown5 hg5); have HY := HX; clear HX _t hown5 hg5 hat5)
      go_roundw
      case rel =>
        obtain ⟨hnet3, T3, hP3⟩ := HN.out
        obtain ⟨hown5, hg5⟩ := HO.out
        have M5 : Mod (fun j => (Value.slice A4 k c4).ownBlock = some j) (w3.alloc (.cells #[.int .i64 (dlOf l k)] 3)) w5 := (Mod.refl _ _).grown hg5 (fun j hj => .inl hj)
        have T5 : TMod w.heap.size (fun t => t == 3) (w3.alloc (.cells #[.int .i64 (dlOf l k)] 3)) w5 := .of_mod M5 (fun j _ hj => by
          obtain ⟨h1, c1, h2⟩ := own_blk HY.out.2.2.2.2 hj
          exact ⟨h1, _, _, h2, by decide⟩)
        refine ⟨k + 1, P ++ ns, by omega, by omega, by go_num, by rw [dueCells_succ]; exact hown5, (hnet3.quiet ((Mod.refl _ _).alloc _)).tmod T5 (by decide) (by decide) (by decide), hP3, (T3.alloc _).trans (T5.mono (fun _ _ => rfl))⟩
      case measure => simp [intOf]; omega
    · have hkn : n ≤ k ∨ 100 ≤ k := by omega
      clear hlt
      obtain ⟨A4, c4, rfl⟩ := own_shape hrow
      have hzc := zero_came
      have hcm := came_start wr
      have hnet2 : NetIs (wr.alloc (.cells came0 46)) w.heap.size g 0 k P [] := hnet.quiet ((Mod.refl _ _).alloc _)
      have hrow2 : (wr.alloc (.cells came0 46)).ownsRow w.heap.size 3 1 (.slice A4 k c4) k (dueCells l k) := own_mod hrow ((Mod.refl (fun _ => False) _).alloc _) (fun _ _ h => h)
      have T2 := T.alloc (.cells came0 46)
      have hcbw : w.heap.size ≤ wr.heap.size := T.size
      have hI := Inv.start HP.out
      have HH := Lib.hid (And.intro hcm (And.intro hnet2 (And.intro hrow2 (And.intro T2 (And.intro hI hcbw)))))
      clear hcm hnet2 hrow2 T2 hI hcbw hnet hrow T
      by_cases h1 : k < n
      all_goals
        go_wp2_with fail
        obtain ⟨cb, hcb⟩ : ∃ cb, cb = wr.heap.size := ⟨_, rfl⟩
        obtain ⟨wo, hwo⟩ : ∃ wo : World, wo = wr.alloc (.cells came0 46) := ⟨_, rfl⟩
        have HH2 : Hid (CameIs wo cb (fun _ => false) ∧ NetIs wo w.heap.size g 0 k P [] ∧ wo.ownsRow w.heap.size 3 1 (.slice A4 k c4) k (dueCells l k) ∧ TMod w.heap.size netA w wo ∧ Inv l k 0 P (fun _ => false) (-1) 0 ∧ w.heap.size ≤ cb) := by subst hcb; subst hwo; exact HH.out
        rw [← hcb, ← hwo]
        clear HH hcb hwo hzc wr
        obtain ⟨hcm, hnet, hrow, T, hI, hcbw⟩ := HH2.out
        clear HH2
        go_loopw [7, 10] (OnceRel2 w g cb k l (.slice A4 k c4)) (fun _ t _ => 33 - (intOf t).toNat)
        case atStart => exact ⟨0, P, _, 0, by omega, rfl, rfl, hrow, hnet, hcm, hI, T⟩
        case round =>
          clear hcm hnet hrow T hI wo
          obtain ⟨t, P2, came, gt, ht, rfl, rfl, hrow, hnet, hcm, hI, T⟩ := hrel
          by_cases hlt : t ≤ 31
          · go_wp2_with fail
            refine (netNext0 _ w.heap.size g t k P2 [] hnet).mono ?_
            intro e w3 hpost
            obtain ⟨b3, is3, he, hrel3⟩ := once_next hrow hcm hI T hnet hpost
            subst he
            clear hpost hrow hcm hI T hnet
            go_wp2_with fail
            go_loopw [7, 8, 11, 12] (OnceRel3 w g cb k t l (.slice A4 k c4)) (fun g _ _ _ _ => k + 1 - (intOf g).toNat)
            case atStart => exact hrel3
            case round =>
              clear hrel3
              obtain ⟨P3, came3, gt3, la, rfl, rfl, hrow, hnet, hcm, T, hor⟩ := hrel
              rcases hor with ⟨rfl, hI⟩ | ⟨p, rfl, rfl, hby, hI, hdue, hmin⟩
              · go_wp2_with fail
                refine (netTick _ w.heap.size g t k _ _ hnet (by omega)).mono ?_
                rintro e w4 ⟨rfl, hn4, T4⟩
                have HR : Hid (w4.ownsRow w.heap.size 3 1 (.slice A4 k c4) k (dueCells l k) ∧ NetIs w4 w.heap.size g ((t + 1 : Nat) : Int) k P3 [] ∧ CameIs w4 cb came3 ∧ Inv l k (t + 1) P3 came3 (-1) gt3 ∧ TMod w.heap.size netA w w4) := ⟨own_tmod hrow T4 (by decide), hn4, hcm.tmod T4 (by decide), hI, T.trans (T4.mono (fun _ _ => rfl))⟩
                clear hrow hnet hcm hI T hn4 T4
                go_wp2_with fail
                go_roundw
                case rel => exact ⟨t + 1, P3, came3, gt3, by omega, by go_num, rfl, HR.out⟩
                case measure => simp [intOf]; omega
              · obtain ⟨i, him, hpk, hci, hdl, hla, hgm⟩ := hI.first hdue
                have hpb := hpk.2.2
                rw [hpb] at hby
                obtain ⟨Ab, cbp, hda⟩ := own_shape hby
                rw [hda] at hby ⊢
                obtain ⟨r, hr⟩ : ∃ r, Ab = some ⟨r, 0, none⟩ := by
                  rcases hby.2 with ⟨hv, h0⟩ | ⟨r, cap, cur, hv, _⟩
                  · cases h0
                  · injection hv with e1; exact ⟨r, e1⟩
                subst hr
                have hbc : wr.cell? ⟨r, 0, none⟩ = some (.int .u8 (i : Int)) := by
                  rw [World.ownsRow.cellAt (n := 1) hby 0 (by omega)]
                  have e : (UInt8.ofNat i).toNat = i := by rw [UInt8.toNat_ofNat']; omega
                  simp [u8s, e]
                obtain ⟨hcc, hcf⟩ := hcm.cell i (by omega)
                rw [hci] at hcc
                obtain ⟨rd, hrd⟩ : ∃ r, A4 = some ⟨r, 0, none⟩ := by
                  rcases hrow.2 with ⟨hv, h0⟩ | ⟨r, cap, cur, hv, _⟩
                  · omega
                  · injection hv with e1; exact ⟨r, e1⟩
                subst hrd
                have hdc : wr.cell? ⟨rd, i, none⟩ = some (.int .i64 (t : Int)) := by rw [hrow.cellAt i (by omega), dueCells_at l k i him, hdl]
                have hi100 : i < 100 := by omega
                have q1 : (0 : Int) ≤ (i : Int) := by omega
                have q2 : (i : Int) < 100 := by omega
                have q3 : (i : Int) < (k : Int) := by omega
                have q4 : decide ((i : Int) < la) = false := by simp; omega
                obtain ⟨cs, hblk, hcs1, hcs2⟩ := hcm
                have hT4 : TMod w.heap.size (fun t => t == 46) wr (wr.setCell ⟨cb, i, none⟩ (.bool true)) := (TMod.refl _ _ _).setCell hblk hcbw (by decide) _
                have HR : Hid ((wr.setCell ⟨cb, i, none⟩ (.bool true)).ownsRow w.heap.size 3 1 (.slice (some ⟨rd, 0, none⟩) k c4) k (dueCells l k) ∧ NetIs (wr.setCell ⟨cb, i, none⟩ (.bool true)) w.heap.size g t k P3 [] ∧ CameIs (wr.setCell ⟨cb, i, none⟩ (.bool true)) cb (fun j => if j = i then true else came3 j) ∧ Inv l k t P3 (fun j => if j = i then true else came3 j) i (gt3 + 1) ∧ TMod w.heap.size netA w (wr.setCell ⟨cb, i, none⟩ (.bool true))) :=
                  ⟨own_tmod hrow hT4 (by decide), hnet.tmod hT4 (by decide) (by decide) (by decide), CameIs.set ⟨cs, hblk, hcs1, hcs2⟩ i, hI.take hpk hdue hmin, T.trans (hT4.mono (fun _ _ => rfl))⟩
                have hbc2 : (wr.setCell ⟨cb, i, none⟩ (.bool true)).cell? ⟨r, 0, none⟩ = some (.int .u8 (i : Int)) := by
                  have h9 := own_tmod hby hT4 (by decide)
                  rw [World.ownsRow.cellAt (n := 1) h9 0 (by omega)]
                  have e : (UInt8.ofNat i).toNat = i := by rw [UInt8.toNat_ofNat']; omega
                  simp [u8s, e]
                clear hrow hnet hblk hcs1 hcs2 hI T hT4 hby hpb hda hpk hdl hci hmin hdue
                go_wp2_with fail
                refine (netNext0 _ w.heap.size g t k P3 [] HR.out.2.1).mono ?_
                intro e w4 hpost
                obtain ⟨b4, is4, he, hrel4⟩ := once_next HR.out.1 HR.out.2.2.1 HR.out.2.2.2.1 HR.out.2.2.2.2 HR.out.2.1 hpost
                subst he
                clear hpost HR hbc2
                go_wp2_with fail
                go_roundw
                case rel => exact hrel4
                case measure => simp [intOf]; omega
          · obtain rfl : t = 32 := by omega
            obtain ⟨hP2, hgt⟩ := hI.done
            subst hP2
            subst hgt
            clear hI hcm hrow
            go_wp2_with fail
            refine (alive21 _).mono ?_
            rintro e w6 ⟨rfl, hb6⟩
            have hm6 := Mod.of_low hb6
            have hn6 := hnet.quiet hm6
            have HT : Hid (TMod w.heap.size netA w w6) := T.trans (.of_quiet hm6)
            clear hb6 hm6 T hnet
            go_wp2_with fail
            refine (netLen _ w.heap.size g _ _ [] [] hn6).mono ?_
            rintro e w8 ⟨rfl, rfl⟩
            go_wp2_with fail
            go_ret
            exact ⟨rfl, HT.out.below⟩
end Go.Proofs.Ytblllengohabjaa
