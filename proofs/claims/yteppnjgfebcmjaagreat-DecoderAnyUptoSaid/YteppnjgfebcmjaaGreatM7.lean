/-
  intra.clip, intra.Clip.
-/
import Derived.Test.YteppnjgfebcmjaaGreatM2
import Derived.Test.YteppnjgfebcmjaaGreatM5
import Derived.Test.YteppnjgfebcmjaaGreatM6
namespace Go.Proofs.YteppnjgfebcmjaaGreat
open Go.RowKit

def clipN (v : Int) : Nat := if v < 0 then 0 else if 255 < v then 255 else v.toNat
theorem clipN_lt (v : Int) : clipN v < 256 := by unfold clipN; split; omega; split <;> omega
theorem clip_any (w : World) (v : Int) (hv : -9223372036854775808 ≤ v ∧ v ≤ 9223372036854775807) : Calls Tryz.prog 88 #[.int .i64 v] w fun e w' => e = .returned (.int .u8 ((clipN v : Nat) : Int)) ∧ w = w' := by
  unfold clipN
  by_cases h1 : v < 0
  · rw [if_pos h1]
    have e1 : max v 0 = 0 := by omega
    go_enter Tryz.func88, Tryz.ntmps88
    go_wp2_with fail
    go_ret
    exact ⟨rfl, rfl⟩
  · rw [if_neg h1]
    by_cases h2 : 255 < v
    · rw [if_pos h2]
      have e1 : max v 0 = v := by omega
      have e2 : min v 255 = 255 := by omega
      go_enter Tryz.func88, Tryz.ntmps88
      go_wp2_with fail
      go_ret
      exact ⟨rfl, rfl⟩
    · rw [if_neg h2]
      have e1 : max v 0 = v := by omega
      have e2 : min v 255 = v := by omega
      have e3 : v % 256 = ((v.toNat : Nat) : Int) := by omega
      go_enter Tryz.func88, Tryz.ntmps88
      go_wp2_with fail
      go_ret
      exact ⟨rfl, rfl⟩

def clipAt (g : List UInt8) (r : List Int) (i : Nat) : Nat := clipN (((g.getD i 0).toNat : Int) + min (max (r.getD i 0) (-255)) 255)
def cpL (g : List UInt8) (r : List Int) (k : Nat) : List UInt8 := (List.range g.length).map fun i => if i < k then UInt8.ofNat (clipAt g r i) else 0
/-- The guess with the rest. -/
def clipL (g : List UInt8) (r : List Int) : List UInt8 := cpL g r g.length
theorem cpL_length (g : List UInt8) (r : List Int) (k : Nat) : (cpL g r k).length = g.length := by simp [cpL]
theorem cpL_zero (g : List UInt8) (r : List Int) : cpL g r 0 = List.replicate g.length 0 := by
  unfold cpL
  apply List.ext_getElem
  · simp
  · intro i h1 h2; simp
theorem cpL_set (g : List UInt8) (r : List Int) (k : Nat) : (cpL g r k).set k (UInt8.ofNat (clipAt g r k)) = cpL g r (k + 1) := by
  unfold cpL
  apply List.ext_getElem
  · simp
  · intro i h1 h2
    rw [List.getElem_set]
    simp only [List.getElem_map, List.getElem_range]
    by_cases e : k = i
    · subst e; rw [if_pos rfl, if_pos (by omega)]
    · rw [if_neg e]
      by_cases e2 : i < k
      · rw [if_pos e2, if_pos (by omega)]
      · rw [if_neg e2, if_neg (by omega)]
theorem made_u8 (n : Nat) : (madeCells (Value.cells (.int .u8 0)) n).toList = u8s (List.replicate n 0) := by
  apply List.ext_getElem
  · simp [size_madeCells, u8s]
  · intro i h1 h2
    simp [madeCells, u8s, Value.cells, Nat.mod_one]
theorem u8s_set (l : List UInt8) (k v : Nat) (hv : v < 256) : u8s (l.set k (UInt8.ofNat v)) = (u8s l).set k (.int .u8 (v : Int)) := by
  have e : (UInt8.ofNat v).toNat = v := by rw [UInt8.toNat_ofNat']; omega
  simp [u8s, List.map_set, e]
def ClipRel (w4 : World) (ob : Nat) (g : List UInt8) (r : List Int) (i : Value) (wr : World) : Prop :=
  ∃ k : Nat, k ≤ g.length ∧ i = .int .i64 k ∧ Blk wr ob 5 (u8s (cpL g r k)).toArray ∧ Mod (· = ob) w4 wr
/-- Where bytes lie. -/
theorem BytesIn.place {w : World} {A : Option Addr} {n c : Nat} {l : List UInt8} (h : BytesIn w A n c l) (h0 : 0 < n) : ∃ b off, A = some ⟨b, off, none⟩ ∧ b < w.heap.size ∧ ∀ i < n, w.cell? ⟨b, off + i, none⟩ = some (.int .u8 ((l.getD i 0).toNat : Int)) := by
  obtain ⟨h1, h2, h3, h4⟩ := h
  cases A with
  | none => have := h3.2.1 rfl; omega
  | some ad =>
    obtain ⟨b, off, spot⟩ := ad
    have hl : 0 < (u8s l).length := by rw [u8s_length]; omega
    have hc := h3.2.2 _ rfl 0 _ (List.getElem?_eq_getElem hl)
    have hspot : spot = none := by simpa [Addr.add] using World.cell?_spot hc
    subst hspot
    refine ⟨b, off, rfl, h4 h0 _ rfl, fun i hi => ?_⟩
    have h5 := h3.2.2 _ rfl i (.int .u8 ((l.getD i 0).toNat : Int)) (by simp [u8s, show i < l.length by omega])
    rwa [addr_add'] at h5

set_option maxRecDepth 100000 in
set_option maxHeartbeats 2000000 in
theorem clipAll (w : World) (A : Option Addr) (n c : Nat) (g : List UInt8) (A2 : Option Addr) (c2 : Nat) (r : List Int) (hin : BytesIn w A n c g) (hin2 : IntsIn w A2 n c2 r) (hn0 : 0 < n) (hn : n ≤ 1048576) :
    Calls Tryz.prog 39 #[.slice A n c, .slice A2 n c2] w fun e w' => ∃ v, e = .returned v ∧ Bytes w' w.heap.size v (clipL g r) ∧ Mod (fun _ => False) w w' := by
  obtain ⟨i0, hi0, hz0, hz1, hz2⟩ := info_parts u8_info
  obtain rfl : g.length = n := hin.1
  obtain ⟨b, off, rfl, hb, hc⟩ := hin.place hn0
  obtain ⟨b2, off2, rfl, hb2, hc2⟩ := hin2.place hn0
  have HC := Lib.hid (And.intro hc hc2)
  have x1 : i0.bytes * g.length ≤ 281474976710656 := by rw [hz2]; omega
  have x2 : g.length ≤ maxLen := by unfold maxLen; omega
  have HX := Lib.hid (And.intro x1 x2)
  clear hc hc2 hin hin2 x1 x2
  go_enter Tryz.func39, Tryz.ntmps39
  go_upto_region 4 with (with_reducible refine wpList_make_full _ rfl (.tmp 14) (.tmp 14) _ rfl w.heap.size 5 i0 (.int .u8 0) 1 Tryz.underlying22 hi0 hz0 hz1 _ _ _ _ g.length rfl rfl rfl rfl HX.out.1 HX.out.2 (Nat.le_refl _) ?_; intro w4 hown4 hg4; have HO := Lib.hid (And.intro hown4 hg4); clear hown4 hg4)
  have m4 : Mod (fun _ => False) w w4 := (Mod.refl _ _).grown HO.out.2 (fun k hk => by cases hk)
  obtain ⟨hob, _⟩ := own_whole HO.out.1
  rw [Nat.mul_one, made_u8, ← cpL_zero g r] at hob
  obtain ⟨ob, hobe⟩ : ∃ ob, ob = w.heap.size := ⟨_, rfl⟩
  rw [← hobe] at hob ⊢
  have how : w.heap.size ≤ ob := by omega
  have hbo : ¬ b = ob := by omega
  have hbo2 : ¬ b2 = ob := by omega
  clear HO hobe
  go_wp2_with fail
  go_loopw [18] (ClipRel w4 ob g r) (fun i _ => g.length - (intOf i).toNat)
  case atStart => exact ⟨0, by omega, rfl, hob, Mod.refl _ _⟩
  case round =>
    clear hob
    obtain ⟨k, hk, rfl, hob, hM⟩ := hrel
    by_cases hlt : k < g.length
    · have hMw : Mod (· = ob) w wr := (m4.mono (fun _ h => h.elim)).trans hM
      have hck : wr.cell? ⟨b, off + k, none⟩ = some (.int .u8 ((g.getD k 0).toNat : Int)) := (World.cell?_of_block (hMw.block b hb hbo)).trans (HC.out.1 k hlt)
      have hck2 : wr.cell? ⟨b2, off2 + k, none⟩ = some (.int .i64 (r.getD k 0)) := (World.cell?_of_block (hMw.block b2 hb2 hbo2)).trans (HC.out.2 k hlt)
      have hx : (g.getD k 0).toNat < 256 := UInt8.toNat_lt _
      have HFA : Hid (clipAt g r k = clipN (((g.getD k 0).toNat : Int) + min (max (r.getD k 0) (-255)) 255)) := rfl
      generalize (g.getD k 0).toNat = x at *
      generalize r.getD k 0 = y at *
      have i1 : (0 : Int) ≤ (k : Int) := by omega
      have i2 : (k : Int) < (g.length : Int) := by omega
      obtain ⟨z, hz⟩ : ∃ z, z = min (max y (-255)) 255 := ⟨_, rfl⟩
      have hzb : -255 ≤ z ∧ z ≤ 255 := by omega
      have hoc : wr.cell? ⟨ob, k, none⟩ = some (.int .u8 (((cpL g r k).getD k 0).toNat : Int)) := by rw [hob.cell k]; simp [u8s, cpL_length, hlt]
      have hof := hob.frozen k
      rw [← hz] at HFA
      have HZ := Lib.hid hz
      clear hz hMw
      have HB := Lib.hid (And.intro hob hM)
      have hcl := clipN_lt (x + z)
      clear hob hM
      go_wp2_with fail
      all_goals
        refine (clip_any _ _ (by omega)).mono ?_
        rintro e w5 ⟨rfl, rfl⟩
        first
          | rw [show clipN ((x : Int) + 255) = clipN (x + z) by congr 2; have := HZ.out; omega]
          | rw [show clipN ((x : Int) + -255) = clipN (x + z) by congr 2; have := HZ.out; omega]
          | rw [show clipN ((x : Int) + y) = clipN (x + z) by congr 2; have := HZ.out; omega]
        rw [← HFA.out] at hcl ⊢
        generalize ((cpL g r k).getD k 0).toNat = old at *
        go_wp2_with fail
        go_roundw
        case rel =>
          obtain ⟨hob, hM⟩ := HB.out
          exact ⟨k + 1, by omega, by go_num, hob.put (by rw [← cpL_set, u8s_set _ _ _ hcl]; simp), hM.setCell (p := ⟨ob, k, none⟩) (.inl rfl) _⟩
        case measure => simp [intOf]; omega
    · obtain rfl : k = g.length := by omega
      have HB := Lib.hid (And.intro hob hM)
      clear hob hM
      go_wp2_with fail
      go_ret
      obtain ⟨hob, hM⟩ := HB.out
      have hl : (clipL g r).length = g.length := cpL_length g r _
      have := Bytes.of_blk (B := w.heap.size) how (l := clipL g r) hob (by rw [hl]; exact HX.out.2)
      rw [hl] at this
      exact ⟨_, rfl, this, m4.into hM (fun i e => .inr (by omega))⟩
end Go.Proofs.YteppnjgfebcmjaaGreat

/-
  lift.Back of eight times eight; decoder.Build.
-/
namespace Go.Proofs.YteppnjgfebcmjaaGreat
open Go.RowKit

def backL (l : List Int) : List Int := rowsK (colsK l 8) 8
theorem backL_length (l : List Int) (h : l.length = 64) : (backL l).length = 64 := rowsK_length _ (by rw [colsK_length]; exact h) 8 (by omega)
theorem allB_within {m : Int} {l : List Int} (h0 : 0 ≤ m) (h : allB m l = true) : Within m l := by
  unfold allB at h
  rw [Bool.and_eq_true, List.all_eq_true] at h
  intro i
  by_cases hi : i < l.length
  · have := h.2 _ (List.getElem_mem hi)
    rw [List.getD_eq_getElem?_getD, List.getElem?_eq_getElem hi]
    unfold inB at this
    simpa using this
  · rw [List.getD_eq_getElem?_getD, List.getElem?_eq_none (by omega)]
    show -m ≤ 0 ∧ 0 ≤ m
    omega
/-- An own row, laid open. -/
theorem own_open {w : World} {B : Nat} {v : Value} {l : List Int} (h : IntsOwn w B v l) (h0 : 0 < l.length) : ∃ r cap tl, v = .slice (some ⟨r, 0, none⟩) l.length cap ∧ l.length ≤ cap ∧ cap ≤ maxLen ∧ B ≤ r ∧ (i64s l ++ tl).length = cap ∧ Blk w r 3 (i64s l ++ tl).toArray := by
  rcases h.2 with ⟨_, h1⟩ | ⟨r, cap, cur, hv, hB, hg, hc, hm, hs, ht⟩
  · omega
  · refine ⟨r, cap, cur.toList.drop (l.length * 1), hv, by omega, hm, hB, ?_, ?_⟩
    · rw [← ht, List.take_append_drop]; simp; omega
    · rw [← ht, List.take_append_drop]; exact hg
theorem own_close {w : World} {B r cap : Nat} {l : List Int} {tl : List Value} (hB : B ≤ r) (hc : l.length ≤ cap) (hm : cap ≤ maxLen) (hl : (i64s l ++ tl).length = cap) (hb : Blk w r 3 (i64s l ++ tl).toArray) : IntsOwn w B (.slice (some ⟨r, 0, none⟩) l.length cap) l :=
  ⟨by rw [i64s_length, Nat.mul_one], .inr ⟨r, cap, _, rfl, hB, hb, hc, hm, by simp only [List.size_toArray]; omega, by rw [Nat.mul_one]; rw [List.take_append_of_le_length (by rw [i64s_length]; omega)]; exact List.take_of_length_le (by rw [i64s_length]; omega)⟩⟩

def BackPost (w : World) (l : List Int) (e : Ending) (w' : World) : Prop :=
  Mod (fun _ => False) w w' ∧ ((allB 67108864 l = false ∧ e = .returned (.tuple #[.slice none 0 0, .int .i64 1])) ∨ ∃ v, allB 67108864 l = true ∧ e = .returned (.tuple #[v, .int .i64 0]) ∧ IntsOwn w' w.heap.size v (backL l))

set_option maxRecDepth 100000 in
set_option maxHeartbeats 1000000 in
theorem liftBack (w : World) (A : Option Addr) (c : Nat) (l : List Int) (hin : IntsIn w A 64 c l) : Calls Tryz.prog 38 #[.slice A 64 c] w (BackPost w l) := by
  have hl : l.length = 64 := hin.1
  have HIN := Lib.hid hin
  clear hin
  go_enter Tryz.func38, Tryz.ntmps38
  go_wp2_with fail
  refine (liftWithin _ 67108864).mono ?_
  rintro e w1 ⟨rfl, hb1, hm1⟩
  have hw1 := hm1.size
  have HW1 := Lib.hid (And.intro hb1 hm1)
  clear hb1 hm1
  go_wp2_with fail
  refine (liftBlock _ A 64 c w.heap.size l 67108864 (HIN.out.quiet HW1.out.2) (by omega) (by omega) HW1.out.1).mono ?_
  rintro e w2 ⟨hm2, ⟨h1, rfl⟩ | ⟨v, h1, rfl, h2⟩⟩
  · have HF := Lib.hid (And.intro h1 (HW1.out.2.trans hm2))
    clear h1 hm2
    go_wp2_with fail
    go_ret2
    exact ⟨HF.out.2.alloc _, .inl ⟨HF.out.1, rfl⟩⟩
  · obtain ⟨r, cap, tl, rfl, hcap, hcm, hB, hcl, hbr⟩ := own_open h2 (by omega)
    have HLE := Lib.hid hl
    rw [hl] at hcap ⊢
    clear hl
    have hrl := hbr.lt
    have h8 : ((sideOf 64 : Nat) : Int) = 8 := rfl
    rw [h8]
    have HF := Lib.hid (And.intro h1 (And.intro (HW1.out.2.trans hm2) hbr))
    have HC := Lib.hid (And.intro hcm hcl)
    clear h1 hm2 hbr h2 h8 hcm hcl
    go_upto_region 2 with (fail)
    have HK : Hid (Blk (w2.alloc (.cells #[.int .i64 8] 3)) r 3 (i64s l ++ tl).toArray ∧ Blk (w2.alloc (.cells #[.int .i64 8] 3)) w2.heap.size 3 #[.int .i64 8] ∧ Mod (fun _ => False) w (w2.alloc (.cells #[.int .i64 8] 3))) := ⟨HF.out.2.2.alloc _, Blk.new _ _ _, HF.out.2.1.alloc _⟩
    have hne : r ≠ w2.heap.size := by omega
    generalize w2.heap.size = nb at *
    generalize w2.alloc (.cells #[.int .i64 8] 3) = w3 at *
    have cn := HK.out.2.1.cell 0
    have hw67 := allB_within (by omega) HF.out.1
    have hwi : Within 34359738368 l := fun i => by have := hw67 i; omega
    have hwi2 : Within 34359738368 (colsK l 8) := fun i => by have := colsK_within HLE.out hw67 (by omega) 8 (by omega) i; omega
    have HWI := Lib.hid (And.intro hwi hwi2)
    clear hwi hwi2 hw67
    go_wp2_with fail
    refine (liftCols _ r nb cap l tl HLE.out HWI.out.1 hne HK.out.1 HK.out.2.1).mono ?_
    rintro e w4 ⟨rfl, hb4, hn4, hm4⟩
    have c4 := hn4.cell 0
    have HK4 := Lib.hid (And.intro hb4 (And.intro hn4 (HK.out.2.2.into hm4 (fun i e => .inr (by omega)))))
    clear hb4 hn4 hm4 cn
    go_wp2_with fail
    refine (liftRows _ r nb cap (colsK l 8) tl (by rw [colsK_length]; exact HLE.out) (by omega) HWI.out.2 hne HK4.out.1 HK4.out.2.1).mono ?_
    rintro e w5 ⟨rfl, hb5, hn5, hm5⟩
    have HK5 := Lib.hid (And.intro hb5 (HK4.out.2.2.into hm5 (fun i e => .inr (by omega))))
    clear hb5 hn5 hm5 c4
    go_wp2_with fail
    go_ret2
    refine ⟨HK5.out.2, .inr ⟨_, HF.out.1, rfl, ?_⟩⟩
    have hbl := backL_length l HLE.out
    have hll := HLE.out
    have := own_close (B := w.heap.size) (cap := cap) (l := backL l) (tl := tl) (by omega) (by omega) HC.out.1 (by have := HC.out.2; simp only [List.length_append, i64s_length] at this ⊢; omega) HK5.out.1
    rwa [hbl] at this

/-- A block of a guess and levels. -/
def buildL (g : List UInt8) (l : List Int) (q : Int) : Option (List UInt8) := if g.length = 64 ∧ l.length = 64 then (qFine l q).map (fun v => clipL g (backL v)) else none
theorem qFine_all {l v : List Int} {q : Int} (h : qFine l q = some v) (hl : l.length = 64) : v.length = 64 ∧ allB 67108864 v = true := by
  unfold qFine at h
  split at h
  · rename_i hc
    injection h with h
    subst h
    have h1 : (fineL l q).length = 64 := by simp [fineL, hl]
    refine ⟨h1, allB_yes (by rw [h1]; decide) (fun j hj => ?_)⟩
    have := hc.2.2 j (by omega)
    rw [h1] at hj
    have e : (fineL l q).getD j 0 = fineAt l q j := by simp [fineL, List.getD_eq_getElem?_getD, hl, hj]
    rw [e]; exact this
  · cases h
def BuildPost (w : World) (g : List UInt8) (l : List Int) (q : Int) (e : Ending) (w' : World) : Prop :=
  Mod (fun _ => False) w w' ∧ ((buildL g l q = none ∧ e = .returned (.tuple #[.slice none 0 0, .int .i64 1])) ∨ ∃ v bs, buildL g l q = some bs ∧ e = .returned (.tuple #[v, .int .i64 0]) ∧ Bytes w' w.heap.size v bs)

set_option maxRecDepth 100000 in
set_option maxHeartbeats 1000000 in
theorem decBuild (w : World) (A : Option Addr) (n c : Nat) (g : List UInt8) (A2 : Option Addr) (n2 c2 : Nat) (l : List Int) (q : Int) (hg : BytesIn w A n c g) (hl : IntsIn w A2 n2 c2 l) (hn : n ≤ 1048576) (hn2 : n2 ≤ 1048576) :
    Calls Tryz.prog 18 #[.slice A n c, .slice A2 n2 c2, .int .i64 q] w (BuildPost w g l q) := by
  obtain rfl : g.length = n := hg.1
  obtain rfl : l.length = n2 := hl.1
  by_cases h1 : g.length = 64
  · by_cases h2 : l.length = 64
    · have HG := Lib.hid hg
      have HL := Lib.hid hl
      have HBD : Hid (buildL g l q = (qFine l q).map (fun v => clipL g (backL v))) := if_pos ⟨h1, h2⟩
      rw [h1] at HG ⊢
      rw [h2] at HL ⊢
      clear hg hl
      have HH := Lib.hid (And.intro h1 h2)
      clear h1 h2
      go_enter Tryz.func18, Tryz.ntmps18
      go_wp2_with fail
      refine (quantFine _ A2 64 c2 l q HL.out (by omega)).mono ?_
      rintro e w1 ⟨hm1, ⟨hq, rfl⟩ | ⟨v, hq, rfl, hv⟩⟩
      · have HQ := Lib.hid (And.intro hq hm1)
        clear hq hm1
        go_wp2_with fail
        go_ret2
        exact ⟨HQ.out.2, .inl ⟨by rw [HBD.out, HQ.out.1]; rfl, rfl⟩⟩
      · obtain ⟨hfl, hfa⟩ := qFine_all hq HH.out.2
        obtain ⟨A3, c3, hv3⟩ := own_shape hv
        subst hv3
        rw [hfl]
        have hin3 := hv.in_
        rw [hfl] at hin3
        have HV := Lib.hid (And.intro hq (And.intro hm1 (And.intro hin3 hfa)))
        clear hq hm1 hv hin3 hfa
        go_wp2_with fail
        refine (liftBack _ A3 c3 _ HV.out.2.2.1).mono ?_
        rintro e w2 ⟨hm2, ⟨h1, rfl⟩ | ⟨v2, h1, rfl, h2⟩⟩
        · exact absurd h1 (by rw [HV.out.2.2.2]; decide)
        · have hbl := backL_length _ hfl
          obtain ⟨A4, c4, hv4⟩ := own_shape h2
          subst hv4
          rw [hbl]
          have hin4 := h2.in_
          rw [hbl] at hin4
          have HV2 := Lib.hid (And.intro hin4 (HV.out.2.1.trans hm2))
          clear h1 h2 hin4 hm2
          go_wp2_with fail
          refine (clipAll _ A 64 c g A4 c4 _ (HG.out.quiet HV2.out.2) HV2.out.1 (by omega) (by omega)).mono ?_
          rintro e w3 ⟨v3, rfl, hb3, hm3⟩
          obtain ⟨A5, c5, hv5⟩ := own_shape hb3
          subst hv5
          have HV3 := Lib.hid (And.intro hb3 (HV2.out.2.trans hm3))
          have hsz := HV2.out.2.size
          clear hb3 hm3
          go_wp2_with fail
          go_ret2
          exact ⟨HV3.out.2, .inr ⟨_, _, by rw [HBD.out, HV.out.1]; rfl, rfl, own_base HV3.out.1 hsz⟩⟩
    · have hz : ((l.length : Int) != 64) = true := by simp; omega
      have HBD : Hid (buildL g l q = none) := if_neg (fun h => h2 h.2)
      rw [h1]
      clear hg hl h1
      go_enter Tryz.func18, Tryz.ntmps18
      go_wp2_with fail
      go_ret2
      exact ⟨Mod.refl _ _, .inl ⟨HBD.out, rfl⟩⟩
  · have hz : ((g.length : Int) != 64) = true := by simp; omega
    have HBD : Hid (buildL g l q = none) := if_neg (fun h => h1 h.1)
    clear hg hl
    go_enter Tryz.func18, Tryz.ntmps18
    go_wp2_with fail
    go_ret2
    exact ⟨Mod.refl _ _, .inl ⟨HBD.out, rfl⟩⟩
end Go.Proofs.YteppnjgfebcmjaaGreat
