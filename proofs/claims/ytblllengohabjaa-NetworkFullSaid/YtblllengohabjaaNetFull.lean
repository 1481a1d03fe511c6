/-
  kinoralaw21.NetworkFull: the walk.
-/
import Derived.Test.YtblllengohabjaaNetMore
namespace Go.Proofs.Ytblllengohabjaa
open Go.RowKit

/-- What holds of the packets that were sent. -/
def FullPk (l : List UInt8) (v : Value) (P : List Pk) : Prop := ∀ p ∈ P, p.bytes = l ∧ p.due = 0 ∧ ∀ j, p.data.ownBlock = some j → v.ownBlock ≠ some j

def FullRel1 (w : World) (g : Nat) (l : List UInt8) (v i : Value) (wr : World) : Prop :=
  ∃ (k : Nat) (P : List Pk), k ≤ 200 ∧ i = .int .i64 k ∧ NetIs wr w.heap.size g 0 k P [] ∧ P.length = k ∧ FullPk l v P ∧ Bytes wr w.heap.size v l ∧ TMod w.heap.size netT w wr
def FullRel2 (w : World) (g : Nat) (P : List Pk) (m : Nat) (v i : Value) (wr : World) : Prop :=
  ∃ (k : Nat) (l' : List UInt8), k ≤ m ∧ i = .int .i64 k ∧ NetIs wr w.heap.size g 0 200 P [] ∧ l'.length = m ∧ Bytes wr w.heap.size v l' ∧ TMod w.heap.size netU w wr
def FullRel3 (w : World) (g : Nat) (P : List Pk) (m : Int) (i : Value) (wr : World) : Prop :=
  ∃ (k : Nat), k ≤ m ∧ i = .int .i64 k ∧ NetIs wr w.heap.size g 0 200 P [] ∧ TMod w.heap.size netU w wr

theorem FullPk.one {l : List UInt8} {v : Value} {P ns : List Pk} {w : World} {B : Nat} {k : Int} (h : FullPk l v P) (hv : Bytes w B v l) (hn : newsOf ns = [(0, k, l)]) (hf : ∀ p ∈ ns, ∀ j, p.data.ownBlock = some j → w.heap.size ≤ j) : FullPk l v (P ++ ns) ∧ (P ++ ns).length = P.length + 1 := by
  obtain ⟨p, rfl, h1, h2, h3⟩ := newsOf_one hn
  refine ⟨fun q hq => ?_, by simp⟩
  rcases List.mem_append.1 hq with hq | hq
  · exact h q hq
  · rw [List.mem_singleton.1 hq]
    refine ⟨h3, h1, fun j hj e => ?_⟩
    have a := hf p (by simp) j hj
    have b := (hv.lt j e).2
    omega

set_option maxRecDepth 100000 in
set_option maxHeartbeats 1000000 in
theorem networkFull_no (A : Option Addr) (n c : Nat) (more : Int) (w : World) (h : 300 < n ∨ more < 0 ∨ 20 < more) (hn : n ≤ 9223372036854775807) :
    Calls Try.prog 6 #[.slice A n c, .int .i64 more] w fun e w' => e = .returned (.bool true) ∧ Below w.heap.size w w' := by
  go_enter Try.func6, Try.ntmps6
  go_wp2_with fail
  refine (netNew w w.heap.size (Nat.le_refl _)).mono ?_
  rintro e w1 ⟨rfl, hn1, hm1, hsz⟩
  clear hsz hn1
  go_wp2_with fail
  all_goals first
    | (exfalso; omega)
    | (refine (alive21 _).mono ?_; rintro e w2 ⟨rfl, hb⟩; have M : Hid (Mod (fun _ => False) w w2) := hm1.trans (Mod.of_low hb); clear hb; go_wp2_with fail; go_ret; exact ⟨rfl, M.out.below (fun _ h => h.elim)⟩)

set_option maxRecDepth 100000 in
set_option maxHeartbeats 4000000 in
theorem networkFull_yes (A : Option Addr) (n c : Nat) (l : List UInt8) (more : Int) (w : World) (hin : BytesIn w A n c l) (hn : n ≤ 300) (h0 : 0 ≤ more) (h20 : more ≤ 20) :
    Calls Try.prog 6 #[.slice A n c, .int .i64 more] w fun e w' => e = .returned (.bool true) ∧ Below w.heap.size w w' := by
  obtain ⟨i0, hi0, hz0, hz1, hz2⟩ := info_parts u8_info
  have hl0 := hin.1
  have hl1 : n ≤ l.length ∧ l.length ≤ n := by omega
  have HIN := Lib.hid hin
  clear hl0 hin
  go_enter Try.func6, Try.ntmps6
  go_wp2_with fail
  refine (netNew w w.heap.size (Nat.le_refl _)).mono ?_
  rintro e w1 ⟨rfl, hn1, hm1, hsz⟩
  clear hsz
  have T1 : TMod w.heap.size netT w w1 := .of_quiet hm1
  obtain ⟨g, hg⟩ : ∃ g, g = w.heap.size := ⟨_, rfl⟩
  rw [show NetIs w1 w.heap.size w.heap.size 0 0 [] [] = NetIs w1 w.heap.size g 0 0 [] [] by rw [hg]] at hn1
  rw [← hg]
  have hgw : w.heap.size ≤ g := by omega
  clear hg hm1
  have ar1 := HIN.out.arg (T1.alloc (.cells #[] 5))
  have ho1 : (w1.alloc (.cells #[] 5)).ownsRow w.heap.size 5 1 (.slice (some ⟨w1.heap.size, 0, none⟩) 0 0) 0 [] := World.ownsRow_made w1 #[] 0 T1.size (by decide) rfl
  have x1 : 0 + n ≤ maxLen := by unfold maxLen; omega
  have x2 : (0 + n) * 1 ≤ 140737488355328 := by omega
  have x3 : w.heap.size ≤ (w1.alloc (.cells #[] 5)).heap.size := by have := T1.size; simp; omega
  have HX := Lib.hid (And.intro x1 (And.intro x2 (And.intro x3 (And.intro ar1 ho1))))
  clear x1 x2 x3 ar1 ho1
  go_wp2_with (at_builtin; have _t := HX; refine wpList_append_src _ rfl (.tmp 25) (.tmp 26) _ rfl w.heap.size 5 i0 _ 1 1 Try.underlying29 hi0 hz0 hz1 hz2 rfl (by omega) (.slice (some ⟨w1.heap.size, 0, none⟩) 0 0) 0 [] rfl HX.out.2.2.2.2 A n c (u8s l) rfl HX.out.2.2.2.1.1.2.2.1 HX.out.2.2.2.1.1.2.1 (u8s_one l) HX.out.1 HX.out.2.1 HX.out.2.2.1 ?_; intro v1 w2 hown1 hg1 hat1; clear HX _t)
  have M2 : Mod (fun _ => False) w1 w2 := ((Mod.refl _ _).alloc _).grown hg1 (fun k hk => .inr (by simp [Value.ownBlock] at hk; omega))
  have T2 : TMod w.heap.size netT w w2 := T1.trans (.of_quiet M2)
  have hn2 := hn1.quiet M2
  have hv : Bytes w2 w.heap.size v1 l := by
    have e : n = l.length := by omega
    unfold Bytes
    subst e
    simpa using hown1
  obtain ⟨A1, c1, hA1⟩ := own_shape hv
  subst hA1
  clear hown1 hg1 hat1 M2 T1 hn1
  go_loopw [7] (FullRel1 w g l (.slice A1 l.length c1)) (fun i _ => 200 - (intOf i).toNat)
  case atStart => exact ⟨0, [], by omega, rfl, hn2, rfl, (fun p hp => by cases hp), hv, T2⟩
  case round =>
    clear hn2 hv T2
    obtain ⟨k, P, hk, rfl, hnet, hP, hfp, hby, T⟩ := hrel
    have HF := Lib.hid (And.intro hP hfp)
    clear hP hfp
    by_cases hlt : k < 200
    · go_wp2_with fail
      have e1 : sendNews 0 k 0 0 0 l = [(0, (k : Int), l)] := by unfold sendNews; rw [if_neg (by omega), if_neg (by omega), bentL_whole _ _ _ (by omega) (by omega)]; rfl
      have c1 := netSend _ w.heap.size g 0 0 k P [] hnet 0 0 0 A1 l.length c1 l hby.arg (by omega) (by omega) (.inl rfl) (by decide) (by rw [e1, HF.out.1]; simp; omega) (by omega)
      rw [e1] at c1
      refine c1.mono ?_
      clear c1 e1
      rintro e w3 ⟨rfl, ns, hns, hnet3, T3, hfr⟩
      obtain ⟨hfp, hPl⟩ := HF.out.2.one hby hns hfr
      have HN : Hid (NetIs w3 w.heap.size g 0 ((k + 1 : Nat) : Int) (P ++ ns) [] ∧ (P ++ ns).length = k + 1 ∧ FullPk l (.slice A1 l.length c1) (P ++ ns) ∧ Bytes w3 w.heap.size (.slice A1 l.length c1) l ∧ TMod w.heap.size netT w w3) :=
        ⟨hnet3, by rw [hPl, HF.out.1], hfp, own_tmod hby T3 (by decide), T.trans T3⟩
      clear hnet3 hPl hfp hfr hns T3 hby T hnet
      go_wp2_with fail
      go_roundw
      case rel => exact ⟨k + 1, P ++ ns, by omega, by go_num, HN.out⟩
      case measure => simp [intOf]; omega
    · obtain rfl : k = 200 := by omega
      have TU : TMod w.heap.size netU w wr := T.mono netT_U
      clear T
      go_wp2_with fail
      obtain ⟨wo, hwo⟩ : ∃ wo : World, wo = wr := ⟨_, rfl⟩
      rw [← hwo] at hnet hby TU ⊢
      clear hwo wr
      go_loopw [8] (FullRel2 w g P l.length (.slice A1 l.length c1)) (fun i _ => l.length - (intOf i).toNat)
      case atStart => exact ⟨0, l, by omega, rfl, hnet, rfl, hby, TU⟩
      case round =>
        clear hnet hby TU wo
        obtain ⟨k, l', hk, rfl, hnet, hl', hby, T⟩ := hrel
        have HL := Lib.hid hl'
        clear hl'
        by_cases hlt : k < l.length
        · obtain ⟨r, hr⟩ : ∃ r, A1 = some ⟨r, 0, none⟩ := by
            rcases hby.2 with ⟨hv, h0⟩ | ⟨r, cap, cur, hv, _⟩
            · have := HL.out; omega
            · injection hv with e1; exact ⟨r, e1⟩
          subst hr
          have hby' : wr.ownsRow w.heap.size 5 1 (.slice (some ⟨r, 0, none⟩) l.length c1) l.length (u8s l') := by have := hby; unfold Bytes at this; rwa [HL.out] at this
          have hcl : wr.cell? ⟨r, k, none⟩ = some (.int .u8 ((l'.getD k 0).toNat : Int)) := by
            rw [hby'.cellAt k (by omega)]
            have : k < l'.length := by rw [HL.out]; exact hlt
            simp [u8s, this]
          have hfr := hby'.frozenAt k
          obtain ⟨hB, cs, hob⟩ := own_blk hby' (k := r) rfl
          have hx : (l'.getD k 0).toNat < 256 := UInt8.toNat_lt _
          have NW := Lib.hid (fun u : UInt8 => And.intro (hby'.stored k (.int .u8 (u.toNat : Int))).1 (And.intro (hnet.off (w' := wr.setCell ⟨r, k, none⟩ (.int .u8 (u.toNat : Int))) ((Mod.refl (· = r) _).setCell (.inl rfl) _) hob (fun p hp e => (HF.out.2 p hp).2.2 r e rfl) (fun p hp => by cases hp)) (T.setCell (i := k) hob hB (by decide) (.int .u8 (u.toNat : Int)))))
          clear hby' hob hB hnet hby T
          go_wp2_with fail
          go_roundw
          case rel =>
            have e : (((l'[k]?.getD 0).toNat : Int) + 1) % 256 = ((UInt8.ofNat ((l'[k]?.getD 0).toNat + 1)).toNat : Int) := by rw [UInt8.toNat_ofNat']; omega
            rw [e]
            obtain ⟨a1, a2, a3⟩ := NW.out (UInt8.ofNat ((l'[k]?.getD 0).toNat + 1))
            refine ⟨k + 1, l'.set k (UInt8.ofNat ((l'[k]?.getD 0).toNat + 1)), by omega, by go_num, a2, by rw [List.length_set, HL.out], ?_, a3⟩
            unfold Bytes
            rw [List.length_set, HL.out, show u8s (l'.set k (UInt8.ofNat ((l'[k]?.getD 0).toNat + 1))) = (u8s l').set k (.int .u8 ((UInt8.ofNat ((l'[k]?.getD 0).toNat + 1)).toNat : Int)) by simp [u8s, List.map_set]]
            exact a1
          case measure => simp [intOf]; omega
        · clear hby
          go_wp2_with fail
          obtain ⟨wo, hwo⟩ : ∃ wo : World, wo = wr := ⟨_, rfl⟩
          rw [← hwo] at hnet T ⊢
          clear hwo wr hk hlt HL l'
          go_loopw [9] (FullRel3 w g P more) (fun i _ => (more - intOf i).toNat)
          case atStart => exact ⟨0, by omega, rfl, hnet, T⟩
          case round =>
            clear hnet T wo
            obtain ⟨k, hk, rfl, hnet, T⟩ := hrel
            by_cases hlt : (k : Int) < more
            · go_wp2_with fail
              refine (send_full' _ w.heap.size g (k % 2) ((k : Int) % 2) 0 200 P [] hnet 0 0 0 _ _ _ (by omega) (by omega) (fate_side _ (by omega) _ _ (by omega) (by omega)) (by rw [HF.out.1]; decide)).mono ?_
              rintro e w3 ⟨rfl, hm3⟩
              have hnet3 := hnet.quiet hm3
              have T3 : TMod w.heap.size netU w w3 := T.trans (.of_quiet hm3)
              clear hm3 hnet T
              go_wp2_with fail
              refine (send_lost _ w.heap.size g 1 0 200 P [] hnet3 0 0 _ _ _ (.inr rfl) (by decide)).mono ?_
              rintro e w4 ⟨rfl, hm4⟩
              have hnet4 := hnet3.quiet hm4
              have T4 : TMod w.heap.size netU w w4 := T3.trans (.of_quiet hm4)
              clear hm4 hnet3 T3
              go_wp2_with fail
              go_roundw
              case rel => ((repeat apply Exists.intro); exact ⟨⟨k + 1, by omega, by go_num, hnet4, T4⟩, rfl⟩)
              case measure => simp [intOf]; omega
            · go_wp2_with fail
              refine (netNext0 _ w.heap.size g 0 200 P [] hnet).mono ?_
              rintro e w5 (⟨_, _, hall⟩ | ⟨p, P', rfl, hpm, hmin, hdue, hn5, hby5, T5⟩)
              · exfalso
                have hl := HF.out.1
                match P, hl with
                | p :: P', _ =>
                  have a := hall p List.mem_cons_self
                  have b := (HF.out.2 p List.mem_cons_self).2.1
                  omega
              · have hpl : p.bytes = l := (HF.out.2 p (hpm.mem_iff.2 List.mem_cons_self)).1
                have hP' : P'.length = 199 := by have := hpm.length_eq; rw [show sel 0 P [] = P from rfl, HF.out.1, List.length_cons] at this; omega
                rw [hpl] at hby5
                obtain ⟨Aa, ca, hda⟩ := own_shape hby5
                rw [hda] at hby5 ⊢
                have hn5' : NetIs w5 w.heap.size g 0 200 P' [] := hn5
                have T5' : TMod w.heap.size netU w w5 := T.trans (T5.mono netT_U)
                have HP := Lib.hid hP'
                clear hpl hda hn5 T5 T hnet hpm hmin hdue hP'
                go_wp2_with fail
                refine (alive21 _).mono ?_
                rintro e w6 ⟨rfl, hb6⟩
                have hm6 := Mod.of_low hb6
                have hn6 := hn5'.quiet hm6
                have T6 : TMod w.heap.size netU w w6 := T5'.trans (.of_quiet hm6)
                have hby6 : Bytes w6 w.heap.size (.slice Aa l.length ca) l := own_mod hby5 hm6 (fun _ _ h => h)
                have s1 := str_bytes hby6
                have ar6 := HIN.out.arg T6
                have s2 := str_src w6 A n c l ar6.1.1 ar6.1.2.2.1
                have AR := Lib.hid ar6
                clear hb6 hm6 hn5' T5' hby5 hby6 ar6
                go_wp2_with fail
                refine (send_full' _ w.heap.size g 1 1 0 200 P' [] hn6 2 0 0 _ _ _ rfl (.inr rfl) (by decide) (by rw [HP.out]; decide)).mono ?_
                rintro e w7 ⟨rfl, hm7⟩
                have hn7 := hn6.quiet hm7
                have T7 : TMod w.heap.size netU w w7 := T6.trans (.of_quiet hm7)
                have ar7 := HIN.out.arg T7
                clear hm7 hn6 T6 s1 s2 AR
                go_wp2_with fail
                have e1 : sendNews 0 200 0 0 0 l = [(0, 200, l)] := by unfold sendNews; rw [if_neg (by omega), if_neg (by omega), bentL_whole _ _ _ (by omega) (by omega)]; rfl
                have c1 := netSend _ w.heap.size g 1 0 200 P' [] hn7 0 0 0 A n c l ar7 (by omega) (by omega) (.inr rfl) (by decide) (by rw [e1, HP.out]; simp) (by omega)
                rw [e1] at c1
                refine c1.mono ?_
                clear c1 e1 ar7
                rintro e w8 ⟨rfl, ns, hns, hn8, T8, hfr⟩
                obtain ⟨q, rfl, _⟩ := newsOf_one hns
                have hn8' : NetIs w8 w.heap.size g 0 201 P' [q] := hn8
                have HT : Hid (TMod w.heap.size netU w w8) := T7.trans (T8.mono netT_U)
                clear hns hn8 T8 hfr hn7 T7
                have e2 : ((P'.length + [q].length : Nat) : Int) = 200 := by rw [HP.out]; rfl
                go_wp2_with fail
                refine (netLen _ w.heap.size g 0 201 P' [q] hn8').mono ?_
                rintro e w9 ⟨rfl, rfl⟩
                rw [e2]
                clear e2
                go_wp2_with fail
                go_ret
                exact ⟨rfl, HT.out.below⟩

theorem networkFull_walk (A : Option Addr) (n c : Nat) (l : List UInt8) (more : Int) (w : World) (hin : BytesIn w A n c l) (hn : n ≤ 9223372036854775807) :
    Calls Try.prog 6 #[.slice A n c, .int .i64 more] w fun e w' => e = .returned (.bool true) ∧ Below w.heap.size w w' := by
  by_cases h : 300 < n ∨ more < 0 ∨ 20 < more
  · exact networkFull_no A n c more w h hn
  · exact networkFull_yes A n c l more w hin (by omega) (by omega) (by omega)
end Go.Proofs.Ytblllengohabjaa
