/-
  intra.clip, intra.Clip.
-/
import Derived.Test.YteppnjgfebcmjaaGreatInts
namespace Go.Proofs.YteppnjgfebcmjaaGreat
open Go.RowKit

def clipN (v : Int) : Nat := if v < 0 then 0 else if 255 < v then 255 else v.toNat
theorem clipN_lt (v : Int) : clipN v < 256 := by unfold clipN; split; omega; split <;> omega
theorem clip_any (w : World) (v : Int) (hv : -9223372036854775808 ≤ v ∧ v ≤ 9223372036854775807) : Calls Tryz.prog 88 #[.int .i64 v] w fun e w' => e = .returned (.int .u8 ((clipN v : Nat) : Int)) ∧ w = w' := by
  unfold clipN
  by_cases h1 : v < 0
  · rw [if_pos h1]
    have e1 : max v 0 = 0 := by omega
    go_enter Tryz.func88, Tryz.ntmps88
    go_wp2_with fail
    go_ret
    exact ⟨rfl, rfl⟩
  · rw [if_neg h1]
    by_cases h2 : 255 < v
    · rw [if_pos h2]
      have e1 : max v 0 = v := by omega
      have e2 : min v 255 = 255 := by omega
      go_enter Tryz.func88, Tryz.ntmps88
      go_wp2_with fail
      go_ret
      exact ⟨rfl, rfl⟩
    · rw [if_neg h2]
      have e1 : max v 0 = v := by omega
      have e2 : min v 255 = v := by omega
      have e3 : v % 256 = ((v.toNat : Nat) : Int) := by omega
      go_enter Tryz.func88, Tryz.ntmps88
      go_wp2_with fail
      go_ret
      exact ⟨rfl, rfl⟩

def clipAt (g : List UInt8) (r : List Int) (i : Nat) : Nat := clipN (((g.getD i 0).toNat : Int) + min (max (r.getD i 0) (-255)) 255)
def cpL (g : List UInt8) (r : List Int) (k : Nat) : List UInt8 := (List.range g.length).map fun i => if i < k then UInt8.ofNat (clipAt g r i) else 0
/-- The guess with the rest. -/
def clipL (g : List UInt8) (r : List Int) : List UInt8 := cpL g r g.length
theorem cpL_length (g : List UInt8) (r : List Int) (k : Nat) : (cpL g r k).length = g.length := by simp [cpL]
theorem cpL_zero (g : List UInt8) (r : List Int) : cpL g r 0 = List.replicate g.length 0 := by
  unfold cpL
  apply List.ext_getElem
  · simp
  · intro i h1 h2; simp
theorem cpL_set (g : List UInt8) (r : List Int) (k : Nat) : (cpL g r k).set k (UInt8.ofNat (clipAt g r k)) = cpL g r (k + 1) := by
  unfold cpL
  apply List.ext_getElem
  · simp
  · intro i h1 h2
    rw [List.getElem_set]
    simp only [List.getElem_map, List.getElem_range]
    by_cases e : k = i
    · subst e; rw [if_pos rfl, if_pos (by omega)]
    · rw [if_neg e]
      by_cases e2 : i < k
      · rw [if_pos e2, if_pos (by omega)]
      · rw [if_neg e2, if_neg (by omega)]
theorem made_u8 (n : Nat) : (madeCells (Value.cells (.int .u8 0)) n).toList = u8s (List.replicate n 0) := by
  apply List.ext_getElem
  · simp [size_madeCells, u8s]
  · intro i h1 h2
    simp [madeCells, u8s, Value.cells, Nat.mod_one]
theorem u8s_set (l : List UInt8) (k v : Nat) (hv : v < 256) : u8s (l.set k (UInt8.ofNat v)) = (u8s l).set k (.int .u8 (v : Int)) := by
  have e : (UInt8.ofNat v).toNat = v := by rw [UInt8.toNat_ofNat']; omega
  simp [u8s, List.map_set, e]
def ClipRel (w4 : World) (ob : Nat) (g : List UInt8) (r : List Int) (i : Value) (wr : World) : Prop :=
  ∃ k : Nat, k ≤ g.length ∧ i = .int .i64 k ∧ Blk wr ob 5 (u8s (cpL g r k)).toArray ∧ Mod (· = ob) w4 wr
/-- Where bytes lie. -/
theorem BytesIn.place {w : World} {A : Option Addr} {n c : Nat} {l : List UInt8} (h : BytesIn w A n c l) (h0 : 0 < n) : ∃ b off, A = some ⟨b, off, none⟩ ∧ b < w.heap.size ∧ ∀ i < n, w.cell? ⟨b, off + i, none⟩ = some (.int .u8 ((l.getD i 0).toNat : Int)) := by
  obtain ⟨h1, h2, h3, h4⟩ := h
  cases A with
  | none => have := h3.2.1 rfl; omega
  | some ad =>
    obtain ⟨b, off, spot⟩ := ad
    have hl : 0 < (u8s l).length := by rw [u8s_length]; omega
    have hc := h3.2.2 _ rfl 0 _ (List.getElem?_eq_getElem hl)
    have hspot : spot = none := by simpa [Addr.add] using World.cell?_spot hc
    subst hspot
    refine ⟨b, off, rfl, h4 h0 _ rfl, fun i hi => ?_⟩
    have h5 := h3.2.2 _ rfl i (.int .u8 ((l.getD i 0).toNat : Int)) (by simp [u8s, show i < l.length by omega])
    rwa [addr_add'] at h5

set_option maxRecDepth 100000 in
set_option maxHeartbeats 2000000 in
theorem clipAll (w : World) (A : Option Addr) (n c : Nat) (g : List UInt8) (A2 : Option Addr) (c2 : Nat) (r : List Int) (hin : BytesIn w A n c g) (hin2 : IntsIn w A2 n c2 r) (hn0 : 0 < n) (hn : n ≤ 1048576) :
    Calls Tryz.prog 39 #[.slice A n c, .slice A2 n c2] w fun e w' => ∃ v, e = .returned v ∧ Bytes w' w.heap.size v (clipL g r) ∧ Mod (fun _ => False) w w' := by
  obtain ⟨i0, hi0, hz0, hz1, hz2⟩ := info_parts u8_info
  obtain rfl : g.length = n := hin.1
  obtain ⟨b, off, rfl, hb, hc⟩ := hin.place hn0
  obtain ⟨b2, off2, rfl, hb2, hc2⟩ := hin2.place hn0
  have HC := Lib.hid (And.intro hc hc2)
  have x1 : i0.bytes * g.length ≤ 281474976710656 := by rw [hz2]; omega
  have x2 : g.length ≤ maxLen := by unfold maxLen; omega
  have HX := Lib.hid (And.intro x1 x2)
  clear hc hc2 hin hin2 x1 x2
  go_enter Tryz.func39, Tryz.ntmps39
  go_upto_region 4 with (with_reducible refine wpList_make_full _ rfl (.tmp 14) (.tmp 14) _ rfl w.heap.size 5 i0 (.int .u8 0) 1 Tryz.underlying22 hi0 hz0 hz1 _ _ _ _ g.length rfl rfl rfl rfl HX.out.1 HX.out.2 (Nat.le_refl _) ?_; intro w4 hown4 hg4; have HO := Lib.hid (And.intro hown4 hg4); clear hown4 hg4)
  have m4 : Mod (fun _ => False) w w4 := (Mod.refl _ _).grown HO.out.2 (fun k hk => by cases hk)
  obtain ⟨hob, _⟩ := own_whole HO.out.1
  rw [Nat.mul_one, made_u8, ← cpL_zero g r] at hob
  obtain ⟨ob, hobe⟩ : ∃ ob, ob = w.heap.size := ⟨_, rfl⟩
  rw [← hobe] at hob ⊢
  have how : w.heap.size ≤ ob := by omega
  have hbo : ¬ b = ob := by omega
  have hbo2 : ¬ b2 = ob := by omega
  clear HO hobe
  go_wp2_with fail
  go_loopw [18] (ClipRel w4 ob g r) (fun i _ => g.length - (intOf i).toNat)
  case atStart => exact ⟨0, by omega, rfl, hob, Mod.refl _ _⟩
  case round =>
    clear hob
    obtain ⟨k, hk, rfl, hob, hM⟩ := hrel
    by_cases hlt : k < g.length
    · have hMw : Mod (· = ob) w wr := (m4.mono (fun _ h => h.elim)).trans hM
      have hck : wr.cell? ⟨b, off + k, none⟩ = some (.int .u8 ((g.getD k 0).toNat : Int)) := (World.cell?_of_block (hMw.block b hb hbo)).trans (HC.out.1 k hlt)
      have hck2 : wr.cell? ⟨b2, off2 + k, none⟩ = some (.int .i64 (r.getD k 0)) := (World.cell?_of_block (hMw.block b2 hb2 hbo2)).trans (HC.out.2 k hlt)
      have hx : (g.getD k 0).toNat < 256 := UInt8.toNat_lt _
      have HFA : Hid (clipAt g r k = clipN (((g.getD k 0).toNat : Int) + min (max (r.getD k 0) (-255)) 255)) := rfl
      generalize (g.getD k 0).toNat = x at *
      generalize r.getD k 0 = y at *
      have i1 : (0 : Int) ≤ (k : Int) := by omega
      have i2 : (k : Int) < (g.length : Int) := by omega
      obtain ⟨z, hz⟩ : ∃ z, z = min (max y (-255)) 255 := ⟨_, rfl⟩
      have hzb : -255 ≤ z ∧ z ≤ 255 := by omega
      have hoc : wr.cell? ⟨ob, k, none⟩ = some (.int .u8 (((cpL g r k).getD k 0).toNat : Int)) := by rw [hob.cell k]; simp [u8s, cpL_length, hlt]
      have hof := hob.frozen k
      rw [← hz] at HFA
      have HZ := Lib.hid hz
      clear hz hMw
      have HB := Lib.hid (And.intro hob hM)
      have hcl := clipN_lt (x + z)
      clear hob hM
      go_wp2_with fail
      all_goals
        refine (clip_any _ _ (by omega)).mono ?_
        rintro e w5 ⟨rfl, rfl⟩
        first
          | rw [show clipN ((x : Int) + 255) = clipN (x + z) by congr 2; have := HZ.out; omega]
          | rw [show clipN ((x : Int) + -255) = clipN (x + z) by congr 2; have := HZ.out; omega]
          | rw [show clipN ((x : Int) + y) = clipN (x + z) by congr 2; have := HZ.out; omega]
        rw [← HFA.out] at hcl ⊢
        generalize ((cpL g r k).getD k 0).toNat = old at *
        go_wp2_with fail
        go_roundw
        case rel =>
          obtain ⟨hob, hM⟩ := HB.out
          exact ⟨k + 1, by omega, by go_num, hob.put (by rw [← cpL_set, u8s_set _ _ _ hcl]; simp), hM.setCell (p := ⟨ob, k, none⟩) (.inl rfl) _⟩
        case measure => simp [intOf]; omega
    · obtain rfl : k = g.length := by omega
      have HB := Lib.hid (And.intro hob hM)
      clear hob hM
      go_wp2_with fail
      go_ret
      obtain ⟨hob, hM⟩ := HB.out
      have hl : (clipL g r).length = g.length := cpL_length g r _
      have := Bytes.of_blk (B := w.heap.size) how (l := clipL g r) hob (by rw [hl]; exact HX.out.2)
      rw [hl] at this
      exact ⟨_, rfl, this, m4.into hM (fun i e => .inr (by omega))⟩
end Go.Proofs.YteppnjgfebcmjaaGreat
