/-
  The reference's floor, Row.
-/
import Derived.Test.YteppnjgfebcmjaaGreatM10
import Derived.Test.YteppnjgfebcmjaaGreatM2
namespace Go.Proofs.YteppnjgfebcmjaaGreat
open Go.RowKit

theorem rfloor (w : World) (v : Int) (h : -4611686018427387904 ≤ v ∧ v ≤ 4611686018427387904) : Calls Tryz.prog 154 #[.int .i64 v] w fun e w' => e = .returned (.int .i64 (v / 2)) ∧ w = w' := by
  by_cases h0 : 0 ≤ v
  · have H := Lib.hid h
    go_enter Tryz.func154, Tryz.ntmps154
    go_wp2_with fail
    go_ret
    exact ⟨rfl, rfl⟩
  · have h1 : -((1 - v) / 2) = v / 2 := by omega
    have H1 := Lib.hid h1
    clear h1
    go_enter Tryz.func154, Tryz.ntmps154
    go_wp2_with fail
    go_ret
    exact ⟨by show Ending.returned (.int .i64 (-((1 - v) / 2))) = _; rw [H1.out], rfl⟩

def rowLow (l : List Int) (m : Nat) : List Int := (List.range m).map fun i => (l.getD (2 * i) 0 + l.getD (2 * i + 1) 0) / 2
def rowHigh (l : List Int) (m : Nat) : List Int := (List.range m).map fun i => l.getD (2 * i) 0 - l.getD (2 * i + 1) 0
theorem rowLow_succ (l : List Int) (m : Nat) : rowLow l (m + 1) = rowLow l m ++ [(l.getD (2 * m) 0 + l.getD (2 * m + 1) 0) / 2] := by simp [rowLow, List.range_succ]
theorem rowHigh_succ (l : List Int) (m : Nat) : rowHigh l (m + 1) = rowHigh l m ++ [l.getD (2 * m) 0 - l.getD (2 * m + 1) 0] := by simp [rowHigh, List.range_succ]
theorem rowLow_length (l : List Int) (m : Nat) : (rowLow l m).length = m := by simp [rowLow]
theorem rowHigh_length (l : List Int) (m : Nat) : (rowHigh l m).length = m := by simp [rowHigh]
theorem rowLow_within {M : Int} {l : List Int} (h0 : 0 ≤ M) (h : Within M l) (m : Nat) : Within M (rowLow l m) := by
  intro i
  by_cases hi : i < m
  · have e : (rowLow l m).getD i 0 = (l.getD (2 * i) 0 + l.getD (2 * i + 1) 0) / 2 := by simp [rowLow, List.getD_eq_getElem?_getD, hi]
    rw [e]
    have a := h (2 * i)
    have b := h (2 * i + 1)
    omega
  · have e : (rowLow l m).getD i 0 = 0 := by simp [rowLow, List.getD_eq_getElem?_getD, hi]
    rw [e]
    omega
def rowK : Nat → List Int → List Int
  | 0, l => l
  | j + 1, l => rowK j (rowLow l (2 ^ j)) ++ rowHigh l (2 ^ j)
theorem rowK_length (j : Nat) : ∀ l : List Int, l.length = 2 ^ j → (rowK j l).length = 2 ^ j := by
  induction j with
  | zero => intro l h; exact h
  | succ j ih =>
    intro l h
    simp only [rowK, List.length_append, rowHigh_length]
    rw [ih _ (rowLow_length _ _), Nat.pow_succ]
    omega

/-- What a call of Row leaves: a slice that reads as the list. -/
def IntsRet (w : World) (l : List Int) (e : Ending) (w' : World) : Prop := ∃ A c, e = .returned (.slice A l.length c) ∧ l.length ≤ c ∧ IntsIn w' A l.length c l ∧ Mod (fun _ => False) w w'

theorem IntsOwn.drew {w : World} {B : Nat} {v : Value} {l : List Int} (h : IntsOwn w B v l) : IntsOwn w.drew B v l := own_mod h ((Mod.refl (fun _ => False) w).drew) (fun _ _ h => h)
theorem IntsOwn.drewN {w : World} {B : Nat} {v : Value} {l : List Int} (h : IntsOwn w B v l) (n : Nat) : IntsOwn (w.drewN n) B v l := own_mod h ((Mod.refl (fun _ => False) w).drewN n) (fun _ _ h => h)
def RowRel (w : World) (l : List Int) (v3 v4 i : Value) (wr : World) : Prop :=
  ∃ k : Nat, 2 * k ≤ l.length ∧ i = .int .i64 ((2 * k : Nat) : Int) ∧ IntsOwn wr w.heap.size v3 (rowLow l k) ∧ IntsOwn wr w.heap.size v4 (rowHigh l k) ∧ (∀ g, v3.ownBlock = some g → v4.ownBlock ≠ some g) ∧ Mod (fun _ => False) w wr

set_option maxRecDepth 100000 in
set_option maxHeartbeats 2000000 in
theorem rrow (j : Nat) : j ≤ 3 → ∀ (w : World) (A : Option Addr) (n c : Nat) (l : List Int), n = 2 ^ j → n ≤ c → IntsIn w A n c l → Within 1099511627776 l → Calls Tryz.prog 130 #[.slice A n c] w (IntsRet w (rowK j l)) := by
  induction j with
  | zero =>
    intro _ w A n c l hn hc hin hw
    subst hn
    have HIN := Lib.hid hin
    clear hin
    go_enter Tryz.func130, Tryz.ntmps130
    go_wp2_with fail
    go_ret
    have h1 : l.length = 1 := HIN.out.1
    refine ⟨A, c, ?_, ?_, ?_, Mod.refl _ _⟩
    · simp [rowK, h1]
    · simp [rowK, h1]; omega
    · simp only [rowK, h1]; exact HIN.out
  | succ j ih =>
    intro hj w A n c l hn hc hin hw
    have ih' := ih (by omega)
    have HIH := Lib.hid ih'
    clear ih ih'
    have hm : n = 2 * 2 ^ j := by rw [hn, Nat.pow_succ]; omega
    have hp : 1 ≤ 2 ^ j ∧ 2 ^ j ≤ 8 := ⟨Nat.one_le_two_pow, Nat.pow_le_pow_right (by omega) (show j ≤ 3 by omega)⟩
    clear hn
    obtain ⟨m, hm2⟩ : ∃ m, m = 2 ^ j := ⟨_, rfl⟩
    rw [← hm2] at hm hp
    have HM := Lib.hid hm2
    clear hm2
    have HN := Lib.hid hm
    have hn1 : 2 ≤ n := by omega
    have hn2 : n ≤ 16 := by omega
    clear hm
    obtain ⟨hp1, hp2⟩ := hp
    obtain ⟨b, off, hA, hb, hcell⟩ := hin.place (by omega)
    subst hA
    have HC := Lib.hid (And.intro hcell hw)
    have hl := hin.1
    have HL := Lib.hid hl
    clear hcell hin hw hl
    go_enter Tryz.func130, Tryz.ntmps130
    go_wp2_with fail
    go_loopw [3, 4, 5] (RowRel w l) (fun _ _ i _ => n - (intOf i).toNat)
    case atStart => exact ⟨0, by omega, rfl, IntsOwn.nil _ _, IntsOwn.nil _ _, (fun g h => by cases h), Mod.refl _ _⟩
    case round =>
      obtain ⟨k, hk, rfl, hlo, hhi, hne, hM⟩ := hrel
      rw [HL.out] at hk
      by_cases hlt0 : k < m
      · have hlt : 2 * k + 1 < n := by have := HN.out; omega
        have hk0 : wr.cell? ⟨b, off + 2 * k, none⟩ = some (.int .i64 (l.getD (2 * k) 0)) := (World.cell?_of_block (hM.block b hb (fun h => h))).trans (HC.out.1 (2 * k) (by omega))
        have hk1 : wr.cell? ⟨b, off + (2 * k + 1), none⟩ = some (.int .i64 (l.getD (2 * k + 1) 0)) := (World.cell?_of_block (hM.block b hb (fun h => h))).trans (HC.out.1 (2 * k + 1) (by omega))
        have hx := HC.out.2 (2 * k)
        have hy := HC.out.2 (2 * k + 1)
        have HS := Lib.hid (And.intro (rowLow_succ l k) (rowHigh_succ l k))
        generalize l.getD (2 * k) 0 = x at *
        generalize l.getD (2 * k + 1) 0 = y at *
        obtain ⟨x1, x2⟩ := hx
        obtain ⟨y1, y2⟩ := hy
        obtain ⟨p, hp⟩ : ∃ p, p = 2 * k := ⟨_, rfl⟩
        rw [← hp] at hk0 hk1 ⊢
        have p1 : (p : Int) < (n : Int) := by omega
        have p2 : (p : Int) + 1 < (n : Int) := by omega
        have HP := Lib.hid hp
        clear hp hk
        obtain ⟨A3, c3, hv3⟩ := own_shape hlo
        subst hv3
        obtain ⟨A4, c4, hv4⟩ := own_shape hhi
        subst hv4
        rw [rowLow_length, rowHigh_length]
        rw [rowLow_length] at hlo hne
        rw [rowHigh_length] at hhi hne
        have hwl := World.block_lt_of_cell? _ _ hk0
        have HB := Lib.hid (And.intro hlo (And.intro hhi (And.intro hne hM)))
        clear hlo hhi hne hM
        have q1 : w.heap.size ≤ wr.drew.heap.size := HB.out.2.2.2.size
        have q2 : (rowLow l k).length < 1048576 := by rw [rowLow_length]; omega
        have q3 : ¬ (Value.slice A3 k c3).ownBlock = some b := fun e => by have := (HB.out.1.lt b e).1; omega
        have HX := Lib.hid (And.intro q1 (And.intro q2 q3))
        clear q1 q2 q3
        have s1 : IntKind.i64.wrap (x + y) = x + y := IntWalk.i64_in _ ⟨by omega, by omega⟩
        have s2 : IntKind.i64.wrap ((p : Int) + 1) = (p : Int) + 1 := IntWalk.i64_in _ ⟨by omega, by omega⟩
        have s3 : ((p : Int) + 1).toNat = p + 1 := by omega
        have s4 : (0 : Int) ≤ (p : Int) + 1 := by omega
        have s5 : (0 : Int) ≤ (p : Int) := by omega
        go_upto_region 7 with (fail)
        have ka : ((wr.drew).alloc (.cells #[.int .i64 ((x + y) / 2)] 3)).cell? ⟨b, off + p, none⟩ = some (.int .i64 x) ∧ ((wr.drew).alloc (.cells #[.int .i64 ((x + y) / 2)] 3)).cell? ⟨b, off + (p + 1), none⟩ = some (.int .i64 y) := ⟨(World.cell?_alloc_lt _ _ _ hwl).trans hk0, (World.cell?_alloc_lt _ _ _ (World.block_lt_of_cell? _ _ hk1)).trans hk1⟩
        go_region_held3 (fun w' => w'.cell? ⟨b, off + p, none⟩ = some (.int .i64 x) ∧ w'.cell? ⟨b, off + (p + 1), none⟩ = some (.int .i64 y)) (first | exact ⟨hk0, hk1⟩ | exact ka | exact kb) (first
          | (go_at_call 154; refine (rfloor _ _ ⟨by omega, by omega⟩).mono ?_; rintro e w3 ⟨rfl, rfl⟩)
          | (refine step_app_int wr.drew (by rfl) _ _ (by rfl) w.heap.size (.slice A3 k c3) (rowLow l k) ((x + y) / 2) (by rfl) (by rfl) (HB.out.1.drew) HX.out.1 HX.out.2.1 ?_; intro v5 w5 hown5 hMa hMb hF; have kb : w5.cell? ⟨b, off + p, none⟩ = some (.int .i64 x) ∧ w5.cell? ⟨b, off + (p + 1), none⟩ = some (.int .i64 y) := ⟨(World.cell?_of_block (hMa.block b hwl HX.out.2.2)).trans hk0, (World.cell?_of_block (hMa.block b hwl HX.out.2.2)).trans hk1⟩; have HO := Lib.hid (And.intro hown5 (And.intro hMa (And.intro hMb hF))); clear hown5 hMa hMb hF))
        clear ka
        obtain ⟨kb0, kb1⟩ := kb
        have hhi5 : IntsOwn w5 w.heap.size (.slice A4 k c4) (rowHigh l k) := by
          have := own_mod (IntsOwn.drew HB.out.2.1) HO.out.2.1 (fun g hg hs => HB.out.2.2.1 g hs hg)
          exact this
        have hM5 : Mod (fun _ => False) w w5 := HO.out.2.2.1 w _ (Nat.le_refl _) HB.out.2.2.2.drew
        have hwl5 := World.block_lt_of_cell? _ _ kb0
        have q1 : w.heap.size ≤ w5.drew.heap.size := hM5.size
        have q2 : (rowHigh l k).length < 1048576 := by rw [rowHigh_length]; omega
        have q3 : ¬ (Value.slice A4 k c4).ownBlock = some b := fun e => by have := (hhi5.lt b e).1; omega
        have HX5 := Lib.hid (And.intro q1 (And.intro q2 (And.intro q3 (And.intro hhi5 hM5))))
        clear q1 q2 q3 hhi5 hM5 hk0 hk1 hwl
        have s1 : IntKind.i64.wrap (x - y) = x - y := IntWalk.i64_in _ ⟨by omega, by omega⟩
        go_upto_region 8 with (fail)
        have ka : ((w5.drew).alloc (.cells #[.int .i64 (x - y)] 3)).cell? ⟨b, off + p, none⟩ = some (.int .i64 x) ∧ ((w5.drew).alloc (.cells #[.int .i64 (x - y)] 3)).cell? ⟨b, off + (p + 1), none⟩ = some (.int .i64 y) := ⟨(World.cell?_alloc_lt _ _ _ hwl5).trans kb0, (World.cell?_alloc_lt _ _ _ (World.block_lt_of_cell? _ _ kb1)).trans kb1⟩
        go_region_held3 (fun w' => w'.cell? ⟨b, off + p, none⟩ = some (.int .i64 x) ∧ w'.cell? ⟨b, off + (p + 1), none⟩ = some (.int .i64 y)) (first | exact ⟨kb0, kb1⟩ | exact ka | exact kb) (first
          | (refine step_app_int w5.drew (by rfl) _ _ (by rfl) w.heap.size (.slice A4 k c4) (rowHigh l k) (x - y) (by rfl) (by rfl) (HX5.out.2.2.2.1.drew) HX5.out.1 HX5.out.2.1 ?_; intro v6 w6 hown6 hMa hMb hF; have kb : w6.cell? ⟨b, off + p, none⟩ = some (.int .i64 x) ∧ w6.cell? ⟨b, off + (p + 1), none⟩ = some (.int .i64 y) := ⟨(World.cell?_of_block (hMa.block b hwl5 HX5.out.2.2.1)).trans kb0, (World.cell?_of_block (hMa.block b hwl5 HX5.out.2.2.1)).trans kb1⟩; have HO6 := Lib.hid (And.intro hown6 (And.intro hMa (And.intro hMb hF))); clear hown6 hMa hMb hF))
        clear s1 s2 s3 s4 s5
        go_wp2_with fail
        go_roundw
        case rel =>
          refine ⟨k + 1, ?_, ?_, ?_, ?_, ?_, HO6.out.2.2.1 w _ (Nat.le_refl _) HX5.out.2.2.2.2.drew⟩
          · rw [HL.out]; omega
          · rw [HP.out]; go_num
          · rw [HS.out.1]
            exact own_mod (IntsOwn.drew HO.out.1) HO6.out.2.1 (fun g hg hs => by
              rcases HO.out.2.2.2 g hg with h | h
              · exact HB.out.2.2.1 g h hs
              · have h7 := (HB.out.2.1.lt g hs).2
                have : wr.drew.heap.size = wr.heap.size := rfl
                omega)
          · rw [HS.out.2]; exact HO6.out.1
          · intro g h3 h4
            rcases HO6.out.2.2.2 g h4 with h | h
            · rcases HO.out.2.2.2 g h3 with h' | h'
              · exact HB.out.2.2.1 g h' h
              · have h7 := (HB.out.2.1.lt g h).2
                have : wr.drew.heap.size = wr.heap.size := rfl
                omega
            · have h7 := (HO.out.1.lt g h3).2
              have : w5.drew.heap.size = w5.heap.size := rfl
              omega
        case measure => simp [intOf]; omega
      · obtain ⟨p, hp⟩ : ∃ p, p = 2 * k := ⟨_, rfl⟩
        have hkm : k = m := by have := HN.out; omega
        subst hkm
        rw [← hp]
        have hpn : p = n := by have := HN.out; omega
        clear hp hk hlt0
        subst hpn
        obtain ⟨A3, c3, hv3⟩ := own_shape hlo
        subst hv3
        obtain ⟨A4, c4, hv4⟩ := own_shape hhi
        subst hv4
        rw [rowLow_length, rowHigh_length]
        rw [rowLow_length] at hlo hne
        rw [rowHigh_length] at hhi hne
        have hcap3 := hlo.cap
        have HB := Lib.hid (And.intro hlo (And.intro hhi (And.intro hne hM)))
        clear hlo hhi hne hM
        have M6 : Mod (fun _ => False) wr (wr.alloc (.cells #[] 3)) := (Mod.refl _ _).alloc _
        have hin6 : IntsIn (wr.alloc (.cells #[] 3)) A3 k c3 (rowLow l k) := (HB.out.1.quiet M6).in_
        have R6 := HIH.out (wr.alloc (.cells #[] 3)) A3 k c3 (rowLow l k) HM.out hcap3 hin6 (rowLow_within (by omega) HC.out.2 k)
        clear hin6 M6
        go_wp2_with fail
        refine R6.mono ?_
        clear R6
        rintro e w7 ⟨A7, c7, rfl, hc7, hin7, hm7⟩
        have hrl : (rowK j (rowLow l k)).length = k := by rw [rowK_length j _ (by rw [rowLow_length]; exact HM.out), ← HM.out]
        rw [hrl] at hin7 ⊢
        have hz7 : IntsOwn w7 w.heap.size (.slice (some ⟨wr.heap.size, 0, none⟩) 0 0) [] := (IntsOwn.whole (l := []) HB.out.2.2.2.size (Blk.new wr 3 #[]) (by decide)).quiet hm7
        have M7 : Mod (fun _ => False) wr w7 := ((Mod.refl _ _).alloc _).trans hm7
        have HZ := Lib.hid (And.intro hz7 (And.intro hin7 (And.intro M7 hrl)))
        clear hz7 hin7 M7 hm7 hrl
        have q1 : w.heap.size ≤ w7.heap.size := Nat.le_trans HB.out.2.2.2.size HZ.out.2.2.1.size
        have q2 : ∀ g, (Value.slice A4 k c4).ownBlock = some g → ¬ (Value.slice (some ⟨wr.heap.size, 0, none⟩) 0 0).ownBlock = some g := fun g hg hs => by
          have h7 := (HB.out.2.1.lt g hg).2
          have hs2 : wr.heap.size = g := by simpa [Value.ownBlock] using hs
          omega
        have HQ := Lib.hid q2
        clear q2
        go_wp2_with (first
          | (at_builtin; refine wpList_app_ints _ rfl (.tmp 43) (.tmp 45) rfl w.heap.size _ [] A7 k c7 _ rfl rfl HZ.out.1 HZ.out.2.1 q1 (by simp; omega) ?_; intro v8 w8 hown8 hMa hMb hF; have HO := Lib.hid (And.intro hown8 (And.intro hMa (hMb w (fun _ => False) (Nat.le_refl _) (HB.out.2.2.2.trans HZ.out.2.2.1)))); clear hown8 hMa hMb hF)
          | (at_builtin; refine wpList_app_ints _ rfl (.tmp 46) (.tmp 47) rfl w.heap.size _ ([] ++ rowK j (rowLow l k)) A4 k c4 (rowHigh l k) rfl rfl HO.out.1 ((HB.out.2.1.quiet HZ.out.2.2.1).mod HO.out.2.1 HQ.out).in_ HO.out.2.2.size (by rw [List.nil_append, HZ.out.2.2.2]; omega) ?_; intro v9 w9 hown9 hMa hMb hF; have HO9 := Lib.hid (And.intro hown9 (hMb w (fun _ => False) (Nat.le_refl _) HO.out.2.2)); clear hown9 hMa hMb hF))
        go_ret
        have e9 : rowK (j + 1) l = [] ++ rowK j (rowLow l k) ++ rowHigh l k := by rw [HM.out]; rfl
        obtain ⟨h9, hM9⟩ := HO9.out
        rw [← e9] at h9
        obtain ⟨A9, c9, hv9⟩ := own_shape h9
        subst hv9
        exact ⟨A9, c9, rfl, h9.cap, h9.in_, hM9⟩
end Go.Proofs.YteppnjgfebcmjaaGreat

/-
  The reference's Unrow.
-/
namespace Go.Proofs.YteppnjgfebcmjaaGreat
open Go.RowKit

def unA (m : Nat) (low l : List Int) (i : Nat) : Int := low.getD i 0 - l.getD (m + i) 0 / 2
def unTo (m : Nat) (low l : List Int) (k : Nat) : List Int := (List.range k).flatMap fun i => [unA m low l i + l.getD (m + i) 0, unA m low l i]
theorem unTo_succ (m : Nat) (low l : List Int) (k : Nat) : unTo m low l (k + 1) = unTo m low l k ++ [unA m low l k + l.getD (m + k) 0, unA m low l k] := by simp [unTo, List.range_succ]
theorem unTo_length (m : Nat) (low l : List Int) (k : Nat) : (unTo m low l k).length = 2 * k := by
  induction k with
  | zero => rfl
  | succ k ih => rw [unTo_succ, List.length_append, ih]; simp; omega
def unK : Nat → List Int → List Int
  | 0, l => l
  | j + 1, l => unTo (2 ^ j) (unK j (l.take (2 ^ j))) l (2 ^ j)
theorem unK_length (j : Nat) : ∀ l : List Int, l.length = 2 ^ j → (unK j l).length = 2 ^ j := by
  cases j with
  | zero => intro l h; exact h
  | succ j => intro l _; simp only [unK, unTo_length, Nat.pow_succ]; omega
theorem within_snoc {M : Int} {l r : List Int} (h0 : 0 ≤ M) (h : Within M l) (hr : ∀ x ∈ r, -M ≤ x ∧ x ≤ M) : Within M (l ++ r) := by
  intro i
  rw [List.getD_eq_getElem?_getD]
  by_cases h1 : i < l.length
  · rw [List.getElem?_append_left h1, ← List.getD_eq_getElem?_getD]; exact h i
  · by_cases h2 : i < (l ++ r).length
    · rw [List.getElem?_append_right (by omega)]
      have h3 : i - l.length < r.length := by simp at h2; omega
      rw [List.getElem?_eq_getElem h3]
      exact hr _ (List.getElem_mem h3)
    · rw [List.getElem?_eq_none (by omega)]; exact ⟨by simp; omega, by simpa using h0⟩
theorem within_take {M : Int} {l : List Int} (h0 : 0 ≤ M) (h : Within M l) (m : Nat) : Within M (l.take m) := by
  intro i
  rw [List.getD_eq_getElem?_getD, List.getElem?_take]
  split
  · rw [← List.getD_eq_getElem?_getD]; exact h i
  · exact ⟨by simp; omega, by simpa using h0⟩
theorem unTo_within {M B : Int} {low l : List Int} (h0 : 0 ≤ M) (hB : 0 ≤ B) (h : Within M l) (hl : Within B low) (m k : Nat) : Within (B + M + 1) (unTo m low l k) := by
  induction k with
  | zero => intro i; simp [unTo]; omega
  | succ k ih =>
    rw [unTo_succ]
    refine within_snoc (by omega) ih ?_
    have a := h (m + k)
    have b := hl k
    intro x hx
    unfold unA at hx
    simp only [List.mem_cons, List.not_mem_nil, or_false] at hx
    rcases hx with hx | hx <;> omega
theorem unK_within {M : Int} (h0 : 0 ≤ M) (j : Nat) : ∀ l, Within M l → Within (M + (j : Int) * (M + 1)) (unK j l) := by
  induction j with
  | zero => intro l h; simpa [unK] using h
  | succ j ih =>
    intro l h
    have a := ih (l.take (2 ^ j)) (within_take h0 h _)
    have hj : 0 ≤ (j : Int) * (M + 1) := Int.mul_nonneg (by omega) (by omega)
    have b := unTo_within h0 (by omega) h a (2 ^ j) (2 ^ j)
    have e : M + (((j + 1 : Nat)) : Int) * (M + 1) = M + (j : Int) * (M + 1) + M + 1 := by
      rw [show (((j + 1 : Nat)) : Int) = (j : Int) + 1 by omega, Int.add_mul]; omega
    rw [e]
    exact b

/-- A part of ints that lie in memory. -/
theorem IntsIn.part {w : World} {b off n c : Nat} {l : List Int} (h : IntsIn w (some ⟨b, off, none⟩) n c l) (k m c' : Nat) (hk : k + m ≤ n) : IntsIn w (some ⟨b, off + k, none⟩) m c' ((l.drop k).take m) := by
  obtain ⟨h1, h2, h3, h4⟩ := h
  refine ⟨by simp; omega, (fun h => by cases h), ⟨by simp [i64s]; omega, (fun h => by cases h), fun ad e i u hu => ?_⟩, fun h0 ad e => ?_⟩
  · injection e with e
    subst e
    rw [addr_add']
    have hi : i < m := by
      have := (List.getElem?_eq_some_iff.1 hu).1
      simp [i64s] at this
      omega
    have h5 := h3.2.2 _ rfl (k + i) u (by
      rw [← hu]
      simp [i64s, hi])
    rw [addr_add'] at h5
    rw [← h5]
    congr 2
    omega
  · injection e with e
    subst e
    exact h4 (by omega) ⟨b, off, none⟩ rfl
def UnRel (w : World) (m : Nat) (low l : List Int) (v5 i : Value) (wr : World) : Prop :=
  ∃ k : Nat, k ≤ m ∧ i = .int .i64 (k : Int) ∧ IntsOwn wr w.heap.size v5 (unTo m low l k) ∧ Mod (fun _ => False) w wr
theorem quiet_floor (w : World) (v : Int) (h : -4611686018427387904 ≤ v ∧ v ≤ 4611686018427387904) (n : Nat) : Calls Tryz.prog 154 #[.int .i64 v] (w.drewN n) fun e w' => e = .returned (.int .i64 (v / 2)) ∧ w' = w.drewN n := (rfloor _ v h).mono fun _ _ ⟨a, b⟩ => ⟨a, b.symm⟩

set_option maxRecDepth 100000 in
set_option maxHeartbeats 2000000 in
theorem runrow (j : Nat) : j ≤ 3 → ∀ (w : World) (A : Option Addr) (n c : Nat) (l : List Int), n = 2 ^ j → n ≤ c → IntsIn w A n c l → Within 1099511627776 l → Calls Tryz.prog 131 #[.slice A n c] w (IntsRet w (unK j l)) := by
  induction j with
  | zero =>
    intro _ w A n c l hn hc hin hw
    subst hn
    have HIN := Lib.hid hin
    clear hin
    go_enter Tryz.func131, Tryz.ntmps131
    go_wp2_with fail
    go_ret
    have h1 : l.length = 1 := HIN.out.1
    refine ⟨A, c, ?_, ?_, ?_, Mod.refl _ _⟩
    · simp [unK, h1]
    · simp [unK, h1]; omega
    · simp only [unK, h1]; exact HIN.out
  | succ j ih =>
    intro hj w A n c l hn hc hin hw
    have ih' := ih (by omega)
    have HIH := Lib.hid ih'
    clear ih ih'
    have hm : n = 2 * 2 ^ j := by rw [hn, Nat.pow_succ]; omega
    have hp : 1 ≤ 2 ^ j ∧ 2 ^ j ≤ 8 := ⟨Nat.one_le_two_pow, Nat.pow_le_pow_right (by omega) (show j ≤ 3 by omega)⟩
    clear hn
    obtain ⟨m, hm2⟩ : ∃ m, m = 2 ^ j := ⟨_, rfl⟩
    rw [← hm2] at hm hp
    have HM := Lib.hid hm2
    clear hm2
    have HN := Lib.hid hm
    have hn1 : 2 ≤ n := by omega
    have hn2 : n ≤ 16 := by omega
    have hnd : (n : Int) / 2 = (m : Int) := by omega
    have hmn : m ≤ n := by omega
    clear hm
    obtain ⟨hp1, hp2⟩ := hp
    obtain ⟨b, off, hA, hb, hcell⟩ := hin.place (by omega)
    subst hA
    have HC := Lib.hid (And.intro hcell hw)
    have hl := hin.1
    have HL := Lib.hid hl
    have hpart := hin.part 0 m c (by omega)
    rw [List.drop_zero, Nat.add_zero] at hpart
    have R4 := HIH.out w _ m c _ HM.out (by omega) hpart (within_take (by omega) hw m)
    clear hcell hin hw hl hpart
    have HW : Hid (Within 4398046511108 (unK j (l.take m))) := by
      have a := unK_within (by omega) j (l.take m) (within_take (by omega) HC.out.2 m)
      intro i
      have := a i
      have hj3 : (j : Int) ≤ 3 := by omega
      have hj4 : (j : Int) * (1099511627776 + 1) ≤ 3 * (1099511627776 + 1) := Int.mul_le_mul_of_nonneg_right hj3 (by omega)
      omega
    go_enter Tryz.func131, Tryz.ntmps131
    go_wp2_with fail
    refine R4.mono ?_
    clear R4
    rintro e w4 ⟨A4, c4, rfl, hc4, hin4, hm4⟩
    have hul : (unK j (l.take m)).length = m := by rw [unK_length j _ (by simp [HL.out, ← HM.out]; omega), ← HM.out]
    rw [hul] at hin4 hc4 ⊢
    obtain ⟨b4, off4, hA4, hb4, hcell4⟩ := hin4.place (by omega)
    subst hA4
    have HC4 := Lib.hid (And.intro hcell4 hm4)
    clear hcell4 hm4 hin4 hul hnd
    obtain ⟨low, hlow⟩ : ∃ low, low = unK j (l.take m) := ⟨_, rfl⟩
    rw [← hlow] at HC4 HW
    have HLW := Lib.hid hlow
    clear hlow
    go_wp2_with fail
    go_loopw [5, 6] (UnRel w4 m low l) (fun _ i _ => m - (intOf i).toNat)
    case atStart => exact ⟨0, by omega, rfl, IntsOwn.nil _ _, Mod.refl _ _⟩
    case round =>
      obtain ⟨k, hk, rfl, hown, hM⟩ := hrel
      by_cases hlt : k < m
      · have hk0 : wr.cell? ⟨b, off + (m + k), none⟩ = some (.int .i64 (l.getD (m + k) 0)) := (World.cell?_of_block ((HC4.out.2.trans hM).block b hb (fun h => h))).trans (HC.out.1 (m + k) (by have := HN.out; omega))
        have hk1 : wr.cell? ⟨b4, off4 + k, none⟩ = some (.int .i64 (low.getD k 0)) := (World.cell?_of_block (hM.block b4 hb4 (fun h => h))).trans (HC4.out.1 k hlt)
        have hx := HC.out.2 (m + k)
        have hy := HW.out k
        have HS := Lib.hid (unTo_succ m low l k)
        unfold unA at HS
        generalize l.getD (m + k) 0 = x at *
        generalize low.getD k 0 = y at *
        obtain ⟨x1, x2⟩ := hx
        obtain ⟨y1, y2⟩ := hy
        obtain ⟨A3, c3, hv3⟩ := own_shape hown
        subst hv3
        rw [unTo_length]
        rw [unTo_length] at hown
        have hwl := World.block_lt_of_cell? _ _ hk0
        have HB := Lib.hid (And.intro hown hM)
        have hmk : m + k < n := by have := HN.out; omega
        have p1 : (m : Int) + (k : Int) < (n : Int) := by omega
        have p3 : (0 : Int) ≤ (m : Int) + (k : Int) := by omega
        have p4 : ((m : Int) + (k : Int)).toNat = m + k := by omega
        clear hown hM
        go_upto_region 10 with (fail)
        have p5 : (k : Int) < (m : Int) := by omega
        have p6 : (0 : Int) ≤ (k : Int) := by omega
        have s1 : IntKind.i64.wrap (y - x / 2) = y - x / 2 := IntWalk.i64_in _ ⟨by omega, by omega⟩
        go_quiet ((go_at_call 154; exact Calls.quiet_of_same (quiet_floor _ x ⟨by omega, by omega⟩ _)))
        clear s1
        have hr5 := HB.out.1.drewN nq
        have hM5 := HB.out.2.drewN nq
        generalize wr.drewN nq = w5 at *
        clear hk0 hk1 hwl
        have hin6 : IntsIn (w5.alloc (.cells #[.int .i64 (y - x / 2 + x), .int .i64 (y - x / 2)] 3)) (some ⟨w5.heap.size, 0, none⟩) 2 2 [y - x / 2 + x, y - x / 2] := (IntsOwn.whole (l := [y - x / 2 + x, y - x / 2]) (Nat.zero_le _) (Blk.new w5 3 _) (by unfold maxLen; simp)).in_
        have hr6 := hr5.quiet ((Mod.refl _ _).alloc (.cells #[.int .i64 (y - x / 2 + x), .int .i64 (y - x / 2)] 3))
        have hM6 := hM5.alloc (.cells #[.int .i64 (y - x / 2 + x), .int .i64 (y - x / 2)] 3)
        have HZ := Lib.hid (And.intro hin6 (And.intro hr6 hM6))
        clear hin6 hr6 hM6 hr5 hM5
        go_wp2_with (at_builtin; have _t := HZ; refine wpList_app_ints _ rfl (.tmp 38) (.tmp 43) rfl w4.heap.size _ _ _ 2 2 _ rfl rfl HZ.out.2.1 HZ.out.1 HZ.out.2.2.size (by rw [unTo_length]; omega) ?_; intro v8 w8 hown8 hMa hMb hF; have HO := Lib.hid (And.intro hown8 (hMb w4 (fun _ => False) (Nat.le_refl _) HZ.out.2.2)); clear hown8 hMa hMb hF)
        go_roundw
        case rel =>
          refine ⟨k + 1, by omega, by go_num, ?_, HO.out.2⟩
          rw [HS.out]
          exact HO.out.1
        case measure => simp [intOf]; omega
      · obtain rfl : k = m := by omega
        have HB := Lib.hid (And.intro hown hM)
        clear hown hM
        go_wp2_with fail
        go_ret
        obtain ⟨h9, hM9⟩ := HB.out
        have e9 : unK (j + 1) l = unTo k low l k := by rw [HLW.out, HM.out]; rfl
        rw [← e9] at h9
        obtain ⟨A9, c9, hv9⟩ := own_shape h9
        subst hv9
        exact ⟨A9, c9, rfl, h9.cap, h9.in_, HC4.out.2.trans hM9⟩
end Go.Proofs.YteppnjgfebcmjaaGreat
