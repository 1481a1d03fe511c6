/-
  coder.Chance, coder.Decoder.
-/
import Derived.Test.YteppnjgfebcmjaaGreatM17
import Derived.Test.YteppnjgfebcmjaaGreatM7
namespace Go.Proofs.YteppnjgfebcmjaaGreat
open Go.RowKit

def chanceOk (c : Nat) : Bool := decide (31 ≤ c ∧ c ≤ 2017)
theorem cRight (w : World) (c : Nat) : Calls Tryz.prog 182 #[.int .u16 (c : Int)] w fun e w' => e = .returned (.bool (chanceOk c)) ∧ w = w' := by
  unfold chanceOk
  by_cases h1 : 31 ≤ c
  · have d1 : decide (31 ≤ (c : Int)) = true := decide_eq_true (by omega)
    by_cases h2 : c ≤ 2017
    · have d2 : decide ((c : Int) ≤ 2017) = true := decide_eq_true (by omega)
      rw [decide_eq_true (And.intro h1 h2)]
      go_enter Tryz.func182, Tryz.ntmps182
      go_wp2_with fail
      go_ret
      exact ⟨rfl, rfl⟩
    · have d2 : decide ((c : Int) ≤ 2017) = false := decide_eq_false (by omega)
      rw [decide_eq_false (fun h => h2 h.2)]
      go_enter Tryz.func182, Tryz.ntmps182
      go_wp2_with fail
      go_ret
      exact ⟨rfl, rfl⟩
  · have d1 : decide (31 ≤ (c : Int)) = false := decide_eq_false (by omega)
    rw [decide_eq_false (fun h => h1 h.1)]
    go_enter Tryz.func182, Tryz.ntmps182
    go_wp2_with fail
    go_ret
    exact ⟨rfl, rfl⟩

/-- The chance behind a bit. -/
def cnext (c bit : Nat) : Nat := if bit = 0 then c + (2048 - c) / 32 else c - c / 32
theorem cnext_ok (c bit : Nat) (h : chanceOk c = true) : chanceOk (cnext c bit) = true := by
  unfold chanceOk cnext at *
  rw [decide_eq_true_eq] at *
  split <;> omega
set_option maxHeartbeats 1000000 in
theorem cNext (w : World) (c bit : Nat) (hb : bit ≤ 1) (h : chanceOk c = true) : Calls Tryz.prog 174 #[.int .u16 (c : Int), .int .i64 (bit : Int)] w fun e w' => e = .returned (.int .u16 ((cnext c bit : Nat) : Int)) ∧ w = w' := by
  unfold chanceOk at h
  rw [decide_eq_true_eq] at h
  obtain ⟨h1, h2⟩ := h
  have m1 : max (c : Int) 31 = (c : Int) := by omega
  have m2 : min (c : Int) 2017 = (c : Int) := by omega
  rcases Nat.eq_zero_or_pos bit with e | e
  · subst e
    have r1 : IntKind.u16.wrap ((c : Int) + IntKind.u16.wrap ((2048 - (c : Int)).tdiv 32)) = ((cnext c 0 : Nat) : Int) := by
      have t : (2048 - (c : Int)).tdiv 32 = (2048 - (c : Int)) / 32 := Int.tdiv_eq_ediv_of_nonneg (by omega)
      rw [t, IntWalk.u16_in ((2048 - (c : Int)) / 32) ⟨by omega, by omega⟩, IntWalk.u16_in _ ⟨by omega, by omega⟩]
      unfold cnext
      rw [if_pos rfl]
      omega
    have R := Lib.hid r1
    clear r1
    go_enter Tryz.func174, Tryz.ntmps174
    go_wp2_with fail
    go_ret
    exact ⟨congrArg (fun z => Ending.returned (.int .u16 z)) R.out, rfl⟩
  · obtain rfl : bit = 1 := by omega
    have r1 : (c : Int) - (c : Int) / 32 = ((cnext c 1 : Nat) : Int) := by
      unfold cnext
      rw [if_neg (by omega)]
      omega
    have R := Lib.hid r1
    clear r1
    go_enter Tryz.func174, Tryz.ntmps174
    go_wp2_with fail
    go_ret
    exact ⟨congrArg (fun z => Ending.returned (.int .u16 z)) R.out, rfl⟩

/-- The bytes behind the first k. -/
theorem BytesIn.from_ {w : World} {b off n c k : Nat} {l : List UInt8} (h : BytesIn w (some ⟨b, off, none⟩) n c l) (hk : k ≤ n) (hc : n ≤ c) : BytesIn w (if c = k then some ⟨b, off, none⟩ else some ⟨b, off + k, none⟩) (n - k) (c - k) (l.drop k) := by
  obtain ⟨h1, h2, h3, h4⟩ := h
  by_cases e : c = k
  · rw [if_pos e]
    have e2 : l.drop k = [] := List.drop_eq_nil_of_le (by omega)
    exact ⟨by simp; omega, (fun h => by cases h), ⟨by rw [u8s_length, List.length_drop]; omega, (fun h => by cases h), fun ad e j u hu => by rw [e2] at hu; simp [u8s] at hu⟩, fun h => by omega⟩
  · rw [if_neg e]
    refine ⟨by simp; omega, (fun h => by cases h), ⟨by rw [u8s_length, List.length_drop]; omega, (fun h => by cases h), fun ad e j u hu => ?_⟩, fun h0 ad e => ?_⟩
    · injection e with e
      subst e
      have e3 : u8s (l.drop k) = (u8s l).drop k := by simp [u8s, List.map_drop]
      rw [e3, List.getElem?_drop] at hu
      have := h3.2.2 _ rfl _ _ hu
      rw [addr_add'] at this ⊢
      rw [← this]
      congr 2
      omega
    · injection e with e
      subst e
      exact h4 (by omega) ⟨b, off, none⟩ rfl

def be (l : List UInt8) : Nat := l.foldl (fun a b => a * 256 + b.toNat) 0
theorem be_snoc (l : List UInt8) (b : UInt8) : be (l ++ [b]) = be l * 256 + b.toNat := by simp [be, List.foldl_append]
theorem be_lt (l : List UInt8) : be l < 256 ^ l.length := by
  have h : ∀ (l : List UInt8) (a : Nat), l.foldl (fun a b => a * 256 + b.toNat) a < (a + 1) * 256 ^ l.length := by
    intro l
    induction l with
    | nil => intro a; simp
    | cons b l ih =>
      intro a
      have h1 := ih (a * 256 + b.toNat)
      have h2 : a * 256 + b.toNat + 1 ≤ (a + 1) * 256 := by have := UInt8.toNat_lt b; omega
      have h3 := Nat.mul_le_mul_right (256 ^ l.length) h2
      simp only [List.foldl_cons, List.length_cons, Nat.pow_succ]
      rw [Nat.mul_comm (256 ^ l.length) 256, ← Nat.mul_assoc]
      omega
  have := h l 0
  simpa [be] using this
theorem or32 (r x : Nat) (hr : r < 16777216) (hx : x < 256) : bits BinOp.or IntKind.u32 ((r : Int) * 256) (x : Int) = ((r * 256 + x : Nat) : Int) := by
  have e1 : (BitVec.ofInt 32 ((r : Int) * 256)).toNat = r * 256 := by rw [BitVec.toNat_ofInt]; omega
  have e2 : (BitVec.ofInt 32 (x : Int)).toNat = x := by rw [BitVec.toNat_ofInt]; omega
  have key : (BitVec.ofInt 32 ((r : Int) * 256) ||| BitVec.ofInt 32 (x : Int)).toNat = r * 256 + x := by
    rw [BitVec.toNat_or, e1, e2]
    have := Nat.shiftLeft_add_eq_or_of_lt (i := 8) (b := x) (by omega) r
    rw [Nat.shiftLeft_eq] at this
    exact this.symm
  show IntKind.u32.wrap ((BitVec.ofInt 32 ((r : Int) * 256) ||| BitVec.ofInt 32 (x : Int)).toNat : Nat) = _
  rw [key]
  exact IntWalk.u32_in _ ⟨by omega, by omega⟩
theorem be_take (l : List UInt8) (k : Nat) (hk : k < l.length) : be (l.take (k + 1)) = be (l.take k) * 256 + (l.getD k 0).toNat := by
  rw [List.take_succ_eq_append_getElem hk, be_snoc, List.getD_eq_getElem?_getD, List.getElem?_eq_getElem hk]
  rfl
/-- A coder.Decoder in memory: what is left of the code, its rest and range. -/
def CodeAt (w : World) (g : Nat) (P : Nat → Prop) (code : List UInt8) (rest wide : Nat) : Prop :=
  ∃ A n c, Blk w g 160 #[.slice A n c, .int .u32 (rest : Int), .int .u32 (wide : Int)] ∧ BytesIn w A n c code ∧ n ≤ c ∧ (0 < n → ∀ ad, A = some ad → P ad.block) ∧ rest < 4294967296 ∧ wide < 4294967296 ∧ n ≤ 1048576
theorem CodeAt.mod {w w' : World} {S P : Nat → Prop} {g : Nat} {code : List UInt8} {rest wide : Nat} (h : CodeAt w g P code rest wide) (hm : Mod S w w') (hg : ¬ S g) (hP : ∀ j, P j → ¬ S j) : CodeAt w' g P code rest wide := by
  obtain ⟨A, n, c, h1, h2, h3, h4, h5⟩ := h
  exact ⟨A, n, c, h1.keep hm hg, h2.mod hm (fun h0 ad e => hP _ (h4 h0 ad e)), h3, h4, h5⟩

def OpenRel (w1 : World) (g : Nat) (A : Value) (l : List UInt8) (i : Value) (wr : World) : Prop :=
  ∃ k : Nat, k ≤ 4 ∧ i = .int .i64 (k : Int) ∧ Blk wr g 160 #[A, .int .u32 ((be (l.take k) : Nat) : Int), .int .u32 4294967295] ∧ Mod (· = g) w1 wr
def OpenPost (w : World) (l : List UInt8) (e : Ending) (w' : World) : Prop :=
  ∃ g, e = .returned (.tuple #[.pointer (some ⟨g, 0, none⟩), .int .i64 0]) ∧ CodeAt w' g (fun j => w.heap.size ≤ j ∧ j < g) (l.drop 4) (be (l.take 4)) 4294967295 ∧ w.heap.size ≤ g ∧ Mod (fun _ => False) w w'

set_option maxRecDepth 100000 in
set_option maxHeartbeats 2000000 in
theorem cOpen (w : World) (A : Option Addr) (n c : Nat) (l : List UInt8) (h4 : 4 ≤ n) (hn : n ≤ 1048576) (hc : n ≤ c) (hin : BytesIn w A n c l) : Calls Tryz.prog 60 #[.slice A n c] w (OpenPost w l) := by
  obtain ⟨b, off, hA, hb, hcell⟩ := hin.place (by omega)
  subst hA
  have hin4 := hin.from_ (k := 4) h4 hc
  have HIN := Lib.hid (And.intro hin4 (And.intro hcell hin.1))
  clear hin hin4 hcell
  go_enter Tryz.func60, Tryz.ntmps60
  go_wp2_with (at_builtin; have _t := HIN; refine wpList_app_u8s _ rfl _ (.tmp 11) rfl w.heap.size (.slice none 0 0) [] _ (n - 4) (c - 4) _ rfl rfl (Bytes.nil _ _) HIN.out.1 (Nat.le_refl _) (by simp; omega) ?_; intro v1 w1 hown1 hMa hMb hF; obtain ⟨A1, c1, hv1⟩ := own_shape hown1; obtain ⟨m1, hm1⟩ : ∃ m1, m1 = ([] ++ l.drop 4).length := ⟨_, rfl⟩; rw [← hm1] at hv1; subst hv1; have HO := Lib.hid (And.intro hown1 (And.intro (hMb w (fun _ => False) (Nat.le_refl _) (Mod.refl _ _)) hm1)); clear hown1 hMa hMb hF hm1)
  all_goals
    have hb1 : Blk (w1.alloc (.cells #[.slice A1 m1 c1, .int .u32 0, .int .u32 4294967295] 160)) w1.heap.size 160 #[.slice A1 m1 c1, .int .u32 0, .int .u32 4294967295] := Blk.new _ _ _
    have hs1 : w.heap.size ≤ w1.heap.size := HO.out.2.1.size
    have M1 : Mod (fun _ => False) w (w1.alloc (.cells #[.slice A1 m1 c1, .int .u32 0, .int .u32 4294967295] 160)) := HO.out.2.1.alloc _
    have HQ := Lib.hid M1
    clear M1
    generalize hw2 : w1.alloc (.cells #[.slice A1 m1 c1, .int .u32 0, .int .u32 4294967295] 160) = w2 at *
    go_loopw [18] (OpenRel w2 w1.heap.size (.slice A1 m1 c1) l) (fun i _ => 4 - (intOf i).toNat)
    case atStart => exact ⟨0, by omega, rfl, hb1, Mod.refl _ _⟩
    case round =>
      clear hb1
      obtain ⟨k, hk, rfl, hb1, hM⟩ := hrel
      by_cases hlt : k < 4
      · have hck : wr.cell? ⟨b, off + k, none⟩ = some (.int .u8 ((l.getD k 0).toNat : Int)) := (World.cell?_of_block ((HQ.out.into hM (fun i e => .inr (by omega))).block b hb (fun h => h))).trans (HIN.out.2.1 k (by omega))
        obtain ⟨hc, hf⟩ := hb1.both
        have hl1 := hb1.lt
        have hx : (l.getD k 0).toNat < 256 := UInt8.toNat_lt _
        have HBE := Lib.hid (be_take l k (by have := HIN.out.2.2; omega))
        generalize (l.getD k 0).toNat = x at *
        have hbe : be (l.take k) < 16777216 := by
          have h1 := be_lt (l.take k)
          have h2 : 256 ^ (l.take k).length ≤ 256 ^ 3 := Nat.pow_le_pow_right (by omega) (by simp; omega)
          omega
        generalize be (l.take k) = r at *
        have d1 : decide ((k : Int) < 4) = true := decide_eq_true (by omega)
        go_wp2_with fail
        go_roundw
        case rel => refine ⟨k + 1, by omega, by go_num, hb1.put (i := 1) (by rw [or32 r x hbe hx, HBE.out]; rfl), hM.setCell (.inl rfl) _⟩
        case measure => simp [intOf]; omega
      · obtain rfl : k = 4 := by omega
        have HB := Lib.hid (And.intro hb1 hM)
        clear hb1 hM
        go_wp2_with fail
        go_ret2
        obtain ⟨h1, h2⟩ := HB.out
        have h3 := HQ.out.into h2 (fun i e => .inr (by omega))
        have h5 := be_lt (l.take 4)
        have h6 : 256 ^ (l.take 4).length ≤ 256 ^ 4 := Nat.pow_le_pow_right (by omega) (by simp; omega)
        have h7 : m1 = n - 4 := by rw [HO.out.2.2]; have := HIN.out.2.2; simp; omega
        have h8 : Mod (fun _ => False) w1 w2 := by rw [← hw2]; exact (Mod.refl _ _).alloc _
        have h9 : Bytes wr w.heap.size (.slice A1 m1 c1) (l.drop 4) := (HO.out.1.quiet h8).mod h2 (fun j hj e => by have := (HO.out.1.lt j hj).2; omega)
        refine ⟨w1.heap.size, rfl, ⟨A1, m1, c1, h1, h9.in_, h9.cap, fun h0 ad e => ?_, by omega, by omega, by omega⟩, hs1, h3⟩
        obtain ⟨r, hr, _⟩ := h9.some_ (by rw [h9.in_.1]; exact h0)
        rw [hr] at e
        injection e with e
        subst e
        have h10 := HO.out.1.lt r (by rw [hr]; rfl)
        exact h10
end Go.Proofs.YteppnjgfebcmjaaGreat
