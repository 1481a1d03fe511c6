/-
  coder.Chance, coder.Decoder.
-/
import Derived.Test.YtmkopcojnibhlaaGreatDoorM1
import Derived.Test.YtmkopcojnibhlaaGreatDoorM2
namespace Go.Proofs.YtmkopcojnibhlaaGreatDoor
open Go.RowKit

def chanceOk (c : Nat) : Bool := decide (31 ≤ c ∧ c ≤ 2017)
theorem cRight (w : World) (c : Nat) : Calls Tryz.prog 238 #[.int .u16 (c : Int)] w fun e w' => e = .returned (.bool (chanceOk c)) ∧ w = w' := by
  unfold chanceOk
  by_cases h1 : 31 ≤ c
  · have d1 : decide (31 ≤ (c : Int)) = true := decide_eq_true (by omega)
    by_cases h2 : c ≤ 2017
    · have d2 : decide ((c : Int) ≤ 2017) = true := decide_eq_true (by omega)
      rw [decide_eq_true (And.intro h1 h2)]
      go_enter Tryz.func238, Tryz.ntmps238
      go_wp2_with fail
      go_ret
      exact ⟨rfl, rfl⟩
    · have d2 : decide ((c : Int) ≤ 2017) = false := decide_eq_false (by omega)
      rw [decide_eq_false (fun h => h2 h.2)]
      go_enter Tryz.func238, Tryz.ntmps238
      go_wp2_with fail
      go_ret
      exact ⟨rfl, rfl⟩
  · have d1 : decide (31 ≤ (c : Int)) = false := decide_eq_false (by omega)
    rw [decide_eq_false (fun h => h1 h.1)]
    go_enter Tryz.func238, Tryz.ntmps238
    go_wp2_with fail
    go_ret
    exact ⟨rfl, rfl⟩

/-- The chance behind a bit. -/
def cnext (c bit : Nat) : Nat := if bit = 0 then c + (2048 - c) / 32 else c - c / 32
theorem cnext_ok (c bit : Nat) (h : chanceOk c = true) : chanceOk (cnext c bit) = true := by
  unfold chanceOk cnext at *
  rw [decide_eq_true_eq] at *
  split <;> omega
set_option maxHeartbeats 1000000 in
theorem cNext (w : World) (c bit : Nat) (hb : bit ≤ 1) (h : chanceOk c = true) : Calls Tryz.prog 197 #[.int .u16 (c : Int), .int .i64 (bit : Int)] w fun e w' => e = .returned (.int .u16 ((cnext c bit : Nat) : Int)) ∧ w = w' := by
  unfold chanceOk at h
  rw [decide_eq_true_eq] at h
  obtain ⟨h1, h2⟩ := h
  have m1 : max (c : Int) 31 = (c : Int) := by omega
  have m2 : min (c : Int) 2017 = (c : Int) := by omega
  rcases Nat.eq_zero_or_pos bit with e | e
  · subst e
    have r1 : IntKind.u16.wrap ((c : Int) + IntKind.u16.wrap ((2048 - (c : Int)).tdiv 32)) = ((cnext c 0 : Nat) : Int) := by
      have t : (2048 - (c : Int)).tdiv 32 = (2048 - (c : Int)) / 32 := Int.tdiv_eq_ediv_of_nonneg (by omega)
      rw [t, IntWalk.u16_in ((2048 - (c : Int)) / 32) ⟨by omega, by omega⟩, IntWalk.u16_in _ ⟨by omega, by omega⟩]
      unfold cnext
      rw [if_pos rfl]
      omega
    have R := Lib.hid r1
    clear r1
    go_enter Tryz.func197, Tryz.ntmps197
    go_wp2_with fail
    go_ret
    exact ⟨congrArg (fun z => Ending.returned (.int .u16 z)) R.out, rfl⟩
  · obtain rfl : bit = 1 := by omega
    have r1 : (c : Int) - (c : Int) / 32 = ((cnext c 1 : Nat) : Int) := by
      unfold cnext
      rw [if_neg (by omega)]
      omega
    have R := Lib.hid r1
    clear r1
    go_enter Tryz.func197, Tryz.ntmps197
    go_wp2_with fail
    go_ret
    exact ⟨congrArg (fun z => Ending.returned (.int .u16 z)) R.out, rfl⟩

/-- The bytes behind the first k. -/
theorem BytesIn.from_ {w : World} {b off n c k : Nat} {l : List UInt8} (h : BytesIn w (some ⟨b, off, none⟩) n c l) (hk : k ≤ n) (hc : n ≤ c) : BytesIn w (if c = k then some ⟨b, off, none⟩ else some ⟨b, off + k, none⟩) (n - k) (c - k) (l.drop k) := by
  obtain ⟨h1, h2, h3, h4⟩ := h
  by_cases e : c = k
  · rw [if_pos e]
    have e2 : l.drop k = [] := List.drop_eq_nil_of_le (by omega)
    exact ⟨by simp; omega, (fun h => by cases h), ⟨by rw [u8s_length, List.length_drop]; omega, (fun h => by cases h), fun ad e j u hu => by rw [e2] at hu; simp [u8s] at hu⟩, fun h => by omega⟩
  · rw [if_neg e]
    refine ⟨by simp; omega, (fun h => by cases h), ⟨by rw [u8s_length, List.length_drop]; omega, (fun h => by cases h), fun ad e j u hu => ?_⟩, fun h0 ad e => ?_⟩
    · injection e with e
      subst e
      have e3 : u8s (l.drop k) = (u8s l).drop k := by simp [u8s, List.map_drop]
      rw [e3, List.getElem?_drop] at hu
      have := h3.2.2 _ rfl _ _ hu
      rw [addr_add'] at this ⊢
      rw [← this]
      congr 2
      omega
    · injection e with e
      subst e
      exact h4 (by omega) ⟨b, off, none⟩ rfl

def be (l : List UInt8) : Nat := l.foldl (fun a b => a * 256 + b.toNat) 0
theorem be_snoc (l : List UInt8) (b : UInt8) : be (l ++ [b]) = be l * 256 + b.toNat := by simp [be, List.foldl_append]
theorem be_lt (l : List UInt8) : be l < 256 ^ l.length := by
  have h : ∀ (l : List UInt8) (a : Nat), l.foldl (fun a b => a * 256 + b.toNat) a < (a + 1) * 256 ^ l.length := by
    intro l
    induction l with
    | nil => intro a; simp
    | cons b l ih =>
      intro a
      have h1 := ih (a * 256 + b.toNat)
      have h2 : a * 256 + b.toNat + 1 ≤ (a + 1) * 256 := by have := UInt8.toNat_lt b; omega
      have h3 := Nat.mul_le_mul_right (256 ^ l.length) h2
      simp only [List.foldl_cons, List.length_cons, Nat.pow_succ]
      rw [Nat.mul_comm (256 ^ l.length) 256, ← Nat.mul_assoc]
      omega
  have := h l 0
  simpa [be] using this
theorem or32 (r x : Nat) (hr : r < 16777216) (hx : x < 256) : bits BinOp.or IntKind.u32 ((r : Int) * 256) (x : Int) = ((r * 256 + x : Nat) : Int) := by
  have e1 : (BitVec.ofInt 32 ((r : Int) * 256)).toNat = r * 256 := by rw [BitVec.toNat_ofInt]; omega
  have e2 : (BitVec.ofInt 32 (x : Int)).toNat = x := by rw [BitVec.toNat_ofInt]; omega
  have key : (BitVec.ofInt 32 ((r : Int) * 256) ||| BitVec.ofInt 32 (x : Int)).toNat = r * 256 + x := by
    rw [BitVec.toNat_or, e1, e2]
    have := Nat.shiftLeft_add_eq_or_of_lt (i := 8) (b := x) (by omega) r
    rw [Nat.shiftLeft_eq] at this
    exact this.symm
  show IntKind.u32.wrap ((BitVec.ofInt 32 ((r : Int) * 256) ||| BitVec.ofInt 32 (x : Int)).toNat : Nat) = _
  rw [key]
  exact IntWalk.u32_in _ ⟨by omega, by omega⟩
theorem be_take (l : List UInt8) (k : Nat) (hk : k < l.length) : be (l.take (k + 1)) = be (l.take k) * 256 + (l.getD k 0).toNat := by
  rw [List.take_succ_eq_append_getElem hk, be_snoc, List.getD_eq_getElem?_getD, List.getElem?_eq_getElem hk]
  rfl
/-- A coder.Decoder in memory: what is left of the code, its rest and range. -/
def CodeAt (w : World) (g : Nat) (P : Nat → Prop) (code : List UInt8) (rest wide : Nat) : Prop :=
  ∃ A n c, Blk w g 259 #[.slice A n c, .int .u32 (rest : Int), .int .u32 (wide : Int)] ∧ BytesIn w A n c code ∧ n ≤ c ∧ (0 < n → ∀ ad, A = some ad → P ad.block) ∧ rest < 4294967296 ∧ wide < 4294967296 ∧ n ≤ 1048576
theorem CodeAt.mod {w w' : World} {S P : Nat → Prop} {g : Nat} {code : List UInt8} {rest wide : Nat} (h : CodeAt w g P code rest wide) (hm : Mod S w w') (hg : ¬ S g) (hP : ∀ j, P j → ¬ S j) : CodeAt w' g P code rest wide := by
  obtain ⟨A, n, c, h1, h2, h3, h4, h5⟩ := h
  exact ⟨A, n, c, h1.keep hm hg, h2.mod hm (fun h0 ad e => hP _ (h4 h0 ad e)), h3, h4, h5⟩

def OpenRel (w1 : World) (g : Nat) (A : Value) (l : List UInt8) (i : Value) (wr : World) : Prop :=
  ∃ k : Nat, k ≤ 4 ∧ i = .int .i64 (k : Int) ∧ Blk wr g 259 #[A, .int .u32 ((be (l.take k) : Nat) : Int), .int .u32 4294967295] ∧ Mod (· = g) w1 wr
def OpenPost (w : World) (l : List UInt8) (e : Ending) (w' : World) : Prop :=
  ∃ g, e = .returned (.tuple #[.pointer (some ⟨g, 0, none⟩), .int .i64 0]) ∧ CodeAt w' g (fun j => w.heap.size ≤ j ∧ j < g) (l.drop 4) (be (l.take 4)) 4294967295 ∧ w.heap.size ≤ g ∧ Mod (fun _ => False) w w'

set_option maxRecDepth 100000 in
set_option maxHeartbeats 2000000 in
theorem cOpen (w : World) (A : Option Addr) (n c : Nat) (l : List UInt8) (h4 : 4 ≤ n) (hn : n ≤ 1048576) (hc : n ≤ c) (hin : BytesIn w A n c l) : Calls Tryz.prog 127 #[.slice A n c] w (OpenPost w l) := by
  obtain ⟨b, off, hA, hb, hcell⟩ := hin.place (by omega)
  subst hA
  have hin4 := hin.from_ (k := 4) h4 hc
  have HIN := Lib.hid (And.intro hin4 (And.intro hcell hin.1))
  clear hin hin4 hcell
  go_enter Tryz.func127, Tryz.ntmps127
  go_wp2_with (at_builtin; have _t := HIN; refine wpList_app_u8s _ rfl _ (.tmp 11) rfl w.heap.size (.slice none 0 0) [] _ (n - 4) (c - 4) _ rfl rfl (Bytes.nil _ _) HIN.out.1 (Nat.le_refl _) (by simp; omega) ?_; intro v1 w1 hown1 hMa hMb hF; obtain ⟨A1, c1, hv1⟩ := own_shape hown1; obtain ⟨m1, hm1⟩ : ∃ m1, m1 = ([] ++ l.drop 4).length := ⟨_, rfl⟩; rw [← hm1] at hv1; subst hv1; have HO := Lib.hid (And.intro hown1 (And.intro (hMb w (fun _ => False) (Nat.le_refl _) (Mod.refl _ _)) hm1)); clear hown1 hMa hMb hF hm1)
  all_goals
    have hb1 : Blk (w1.alloc (.cells #[.slice A1 m1 c1, .int .u32 0, .int .u32 4294967295] 259)) w1.heap.size 259 #[.slice A1 m1 c1, .int .u32 0, .int .u32 4294967295] := Blk.new _ _ _
    have hs1 : w.heap.size ≤ w1.heap.size := HO.out.2.1.size
    have M1 : Mod (fun _ => False) w (w1.alloc (.cells #[.slice A1 m1 c1, .int .u32 0, .int .u32 4294967295] 259)) := HO.out.2.1.alloc _
    have HQ := Lib.hid M1
    clear M1
    generalize hw2 : w1.alloc (.cells #[.slice A1 m1 c1, .int .u32 0, .int .u32 4294967295] 259) = w2 at *
    go_loopw [18] (OpenRel w2 w1.heap.size (.slice A1 m1 c1) l) (fun i _ => 4 - (intOf i).toNat)
    case atStart => exact ⟨0, by omega, rfl, hb1, Mod.refl _ _⟩
    case round =>
      clear hb1
      obtain ⟨k, hk, rfl, hb1, hM⟩ := hrel
      by_cases hlt : k < 4
      · have hck : wr.cell? ⟨b, off + k, none⟩ = some (.int .u8 ((l.getD k 0).toNat : Int)) := (World.cell?_of_block ((HQ.out.into hM (fun i e => .inr (by omega))).block b hb (fun h => h))).trans (HIN.out.2.1 k (by omega))
        obtain ⟨hc, hf⟩ := hb1.both
        have hl1 := hb1.lt
        have hx : (l.getD k 0).toNat < 256 := UInt8.toNat_lt _
        have HBE := Lib.hid (be_take l k (by have := HIN.out.2.2; omega))
        generalize (l.getD k 0).toNat = x at *
        have hbe : be (l.take k) < 16777216 := by
          have h1 := be_lt (l.take k)
          have h2 : 256 ^ (l.take k).length ≤ 256 ^ 3 := Nat.pow_le_pow_right (by omega) (by simp; omega)
          omega
        generalize be (l.take k) = r at *
        have d1 : decide ((k : Int) < 4) = true := decide_eq_true (by omega)
        go_wp2_with fail
        go_roundw
        case rel => refine ⟨k + 1, by omega, by go_num, hb1.put (i := 1) (by rw [or32 r x hbe hx, HBE.out]; rfl), hM.setCell (.inl rfl) _⟩
        case measure => simp [intOf]; omega
      · obtain rfl : k = 4 := by omega
        have HB := Lib.hid (And.intro hb1 hM)
        clear hb1 hM
        go_wp2_with fail
        go_ret2
        obtain ⟨h1, h2⟩ := HB.out
        have h3 := HQ.out.into h2 (fun i e => .inr (by omega))
        have h5 := be_lt (l.take 4)
        have h6 : 256 ^ (l.take 4).length ≤ 256 ^ 4 := Nat.pow_le_pow_right (by omega) (by simp; omega)
        have h7 : m1 = n - 4 := by rw [HO.out.2.2]; have := HIN.out.2.2; simp; omega
        have h8 : Mod (fun _ => False) w1 w2 := by rw [← hw2]; exact (Mod.refl _ _).alloc _
        have h9 : Bytes wr w.heap.size (.slice A1 m1 c1) (l.drop 4) := (HO.out.1.quiet h8).mod h2 (fun j hj e => by have := (HO.out.1.lt j hj).2; omega)
        refine ⟨w1.heap.size, rfl, ⟨A1, m1, c1, h1, h9.in_, h9.cap, fun h0 ad e => ?_, by omega, by omega, by omega⟩, hs1, h3⟩
        obtain ⟨r, hr, _⟩ := h9.some_ (by rw [h9.in_.1]; exact h0)
        rw [hr] at e
        injection e with e
        subst e
        have h10 := HO.out.1.lt r (by rw [hr]; rfl)
        exact h10
end Go.Proofs.YtmkopcojnibhlaaGreatDoor

/-
  coder.Decoder.Get, End.
-/
namespace Go.Proofs.YtmkopcojnibhlaaGreatDoor
open Go.RowKit

def cnorm : List UInt8 → Nat → Nat → Option (List UInt8 × Nat × Nat)
  | [], r, w => if 16777216 ≤ w then some ([], r, w) else none
  | b :: t, r, w => if 16777216 ≤ w then some (b :: t, r, w) else cnorm t (r * 256 + b.toNat) (w * 256)
theorem cnorm_done (code : List UInt8) (r w : Nat) (h : 16777216 ≤ w) : cnorm code r w = some (code, r, w) := by
  cases code <;> simp [cnorm, h]
theorem cnorm_none (r w : Nat) (h : w < 16777216) : cnorm [] r w = none := by simp [cnorm]; omega
theorem cnorm_step (b : UInt8) (t : List UInt8) (r w : Nat) (h : w < 16777216) : cnorm (b :: t) r w = cnorm t (r * 256 + b.toNat) (w * 256) := by
  rw [cnorm, if_neg (by omega)]
/-- The next bit of a code, and what is left. -/
def cget (code : List UInt8) (rest wide c : Nat) : Option (Nat × List UInt8 × Nat × Nat) :=
  if chanceOk c = true ∧ rest < wide then
    if rest < wide / 2048 * c then (cnorm code rest (wide / 2048 * c)).map (fun x => (0, x))
    else (cnorm code (rest - wide / 2048 * c) (wide - wide / 2048 * c)).map (fun x => (1, x))
  else none

def GetPost (w : World) (g : Nat) (P : Nat → Prop) (r : Option (Nat × List UInt8 × Nat × Nat)) (e : Ending) (w' : World) : Prop :=
  (r = none ∧ ∃ er : Int, (er == 0) = false ∧ e = .returned (.tuple #[.int .i64 0, .int .i64 er]) ∧ Mod (fun _ => False) w w') ∨
  ∃ bit code rest wide, r = some (bit, code, rest, wide) ∧ bit ≤ 1 ∧ e = .returned (.tuple #[.int .i64 (bit : Int), .int .i64 0]) ∧ CodeAt w' g P code rest wide ∧ Mod (· = g) w w'

def NormRel (w : World) (g : Nat) (P : Nat → Prop) (cs : Array Value) (r : Option (List UInt8 × Nat × Nat)) (v8 v9 v10 : Value) (wr : World) : Prop :=
  Blk wr g 259 cs ∧ Mod (fun _ => False) w wr ∧ ∃ (code : List UInt8) (rest wide : Nat) (A : Option Addr) (n c : Nat), v8 = .int .u32 (rest : Int) ∧ v9 = .int .u32 (wide : Int) ∧ v10 = .slice A n c ∧ BytesIn wr A n c code ∧ n ≤ c ∧ (0 < n → ∀ ad, A = some ad → P ad.block) ∧ rest < wide ∧ wide < 4294967296 ∧ n ≤ 1048576 ∧ cnorm code rest wide = r

theorem bound_lt (wide c : Nat) (hc : c ≤ 2017) : wide / 2048 * c ≤ wide := by
  have h1 : wide / 2048 * c ≤ wide / 2048 * 2048 := Nat.mul_le_mul_left _ (by omega)
  omega

set_option maxRecDepth 100000 in
set_option maxHeartbeats 4000000 in
theorem cGet (w : World) (g : Nat) (P : Nat → Prop) (hPg : ¬ P g) (code : List UInt8) (rest wide c : Nat) (h : CodeAt w g P code rest wide) : Calls Tryz.prog 271 #[.pointer (some ⟨g, 0, none⟩), .int .u16 (c : Int)] w (GetPost w g P (cget code rest wide c)) := by
  obtain ⟨A, n, cp, hb, hin, hcap, hP, hr, hw, hn⟩ := h
  have c0 : w.cell? ⟨g, 0, none⟩ = some (.slice A n cp) := hb.cell 0
  have c1 : w.cell? ⟨g, 1, none⟩ = some (.int .u32 (rest : Int)) := hb.cell 1
  have c2 : w.cell? ⟨g, 2, none⟩ = some (.int .u32 (wide : Int)) := hb.cell 2
  have hf := hb.frozen
  have f0 := hf 0
  have f1 := hf 1
  have f2 := hf 2
  have hlt := hb.lt
  have HH := Lib.hid (And.intro hb (And.intro hin (And.intro hP hf)))
  clear hb hin hP hf
  cases hc : chanceOk c with
  | false =>
    have HR : Hid (cget code rest wide c = none) := if_neg (fun h => by rw [hc] at h; cases h.1)
    have HC := Lib.hid hc
    clear hc
    go_enter Tryz.func271, Tryz.ntmps271
    go_wp2_with fail
    refine (cRight _ c).mono ?_
    rintro e w1 ⟨rfl, rfl⟩
    rw [HC.out]
    go_wp2_with fail
    go_ret2
    exact .inl ⟨HR.out, 1, rfl, rfl, Mod.refl _ _⟩
  | true =>
    have hcb : 31 ≤ c ∧ c ≤ 2017 := by unfold chanceOk at hc; rwa [decide_eq_true_eq] at hc
    obtain ⟨hc1, hc2⟩ := hcb
    have HC := Lib.hid hc
    clear hc
    by_cases hrw : rest < wide
    · have d1 : decide (wide ≤ rest) = false := decide_eq_false (by omega)
      have hbd := bound_lt wide c hc2
      obtain ⟨bd, hbe⟩ : ∃ bd, bd = wide / 2048 * c := ⟨_, rfl⟩
      rw [← hbe] at hbd
      have e1 : (wide : Int) / 2048 * (c : Int) % 4294967296 = (bd : Int) := by
        have : (wide : Int) / 2048 * (c : Int) = (bd : Int) := by rw [hbe]; simp
        rw [this]
        omega
      have HE := Lib.hid (And.intro e1 hbe)
      clear e1 hbe
      go_enter Tryz.func271, Tryz.ntmps271
      go_wp2_with fail
      refine (cRight _ c).mono ?_
      rintro e w1 ⟨rfl, rfl⟩
      rw [HC.out]
      go_upto_region 3 with (fail)
      go_quiet (fail)
      go_upto_region 6 with (fail)
      rw [HE.out.1]
      go_quiet (fail)
      by_cases hbit : rest < bd
      · have d2 : decide (bd ≤ rest) = false := decide_eq_false (by omega)
        have HG : Hid (cget code rest wide c = (cnorm code rest bd).map (fun x => (0, x))) := by
          show _ = _
          unfold cget
          rw [if_pos ⟨HC.out, hrw⟩, ← HE.out.2, if_pos hbit]
        have hrw0 := hbit
        go_wp2_with fail
        go_loopw [8, 9, 10] (NormRel w g P #[.slice A n cp, .int .u32 (rest : Int), .int .u32 (wide : Int)] (cnorm code rest bd)) (fun _ _ v _ => match v with | .slice _ n _ => n | _ => 0)
        case atStart => exact ⟨HH.out.1, (by repeat' (first | with_reducible exact Mod.refl _ _ | with_reducible refine Mod.drewN ?_ _ | with_reducible refine Mod.drew ?_ | with_reducible refine Mod.setCell ?_ ?_ _ | exact Or.inl rfl)), code, rest, bd, A, n, cp, rfl, rfl, rfl, HH.out.2.1, hcap, HH.out.2.2.1, by omega, by omega, hn, rfl⟩
        case round =>
          obtain ⟨hbr, hMr, code1, r1, w1, A1, n1, c1, rfl, rfl, rfl, hin1, hcap1, hP1, hrw1, hw1, hn1, hcn⟩ := hrel
          have k0 : wr.cell? ⟨g, 0, none⟩ = some (.slice A n cp) := hbr.cell 0
          have k1 : wr.cell? ⟨g, 1, none⟩ = some (.int .u32 (rest : Int)) := hbr.cell 1
          have k2 : wr.cell? ⟨g, 2, none⟩ = some (.int .u32 (wide : Int)) := hbr.cell 2
          have g0 := hbr.frozen 0
          have g1 := hbr.frozen 1
          have g2 := hbr.frozen 2
          have hlr := hbr.lt
          have HBR := Lib.hid (And.intro hbr hMr)
          clear hbr hMr
          have hl1 := hin1.1
          by_cases hdone : 16777216 ≤ w1
          · have d3 : decide ((w1 : Int) < 16777216) = false := decide_eq_false (by omega)
            have HN : Hid (cget code rest wide c = some (0, code1, r1, w1)) := by
              show _ = _
              rw [HG.out, ← hcn, cnorm_done _ _ _ hdone]
              rfl
            have HI := Lib.hid (And.intro hin1 hP1)
            clear hin1 hP1 hcn hl1
            go_wp2_with fail
            go_ret2
            refine .inr ⟨0, code1, r1, w1, HN.out, by omega, rfl, ⟨A1, n1, c1, ?_, ?_, hcap1, HI.out.2, by omega, by omega, hn1⟩, ?_⟩
            · refine Blk.put (i := 2) (cs := #[.slice A1 n1 c1, .int .u32 (r1 : Int), .int .u32 (wide : Int)]) ?_ rfl
              refine Blk.put (i := 1) (cs := #[.slice A1 n1 c1, .int .u32 (rest : Int), .int .u32 (wide : Int)]) ?_ rfl
              refine Blk.put (i := 0) (cs := #[.slice A n cp, .int .u32 (rest : Int), .int .u32 (wide : Int)]) ?_ rfl
              exact HBR.out.1
            · exact HI.out.1.mod (S := (· = g)) (by repeat' (first | with_reducible exact Mod.refl _ _ | with_reducible refine Mod.drewN ?_ _ | with_reducible refine Mod.drew ?_ | with_reducible refine Mod.setCell ?_ ?_ _ | exact Or.inl rfl)) (fun h0 ad e hj => hPg (hj ▸ HI.out.2 h0 ad e))
            · exact (HBR.out.2.mono (fun _ h => h.elim)).trans (S := (· = g)) (by repeat' (first | with_reducible exact Mod.refl _ _ | with_reducible refine Mod.drewN ?_ _ | with_reducible refine Mod.drew ?_ | with_reducible refine Mod.setCell ?_ ?_ _ | exact Or.inl rfl))
          · have d3 : decide ((w1 : Int) < 16777216) = true := decide_eq_true (by omega)
            cases code1 with
            | nil =>
              obtain rfl : n1 = 0 := by simpa using hl1.symm
              have HN : Hid (cget code rest wide c = none) := by
                show _ = _
                rw [HG.out, ← hcn, cnorm_none _ _ (by omega)]
                rfl
              clear hin1 hP1 hcn hl1
              go_wp2_with fail
              go_ret2
              exact .inl ⟨HN.out, 41, rfl, rfl, HBR.out.2⟩
            | cons b t =>
              have hn0 : 0 < n1 := by simp at hl1; omega
              obtain ⟨bb, off, hA1, hbb, hcell⟩ := hin1.place hn0
              subst hA1
              have k0 := hcell 0 hn0
              rw [Nat.add_zero] at k0
              simp only [List.getD_cons_zero] at k0
              have hx : b.toNat < 256 := UInt8.toNat_lt b
              have d4 : ((n1 : Int) == 0) = false := beq_eq_false_iff_ne.2 (by omega)
              have hin2 := hin1.from_ (k := 1) (by omega) hcap1
              have HI := Lib.hid (And.intro hin2 (And.intro hP1 (And.intro hcn (And.intro hn0 (or32 r1 b.toNat (by omega) hx)))))
              clear hin1 hP1 hcn hl1 hin2 hcell
              go_wp2_with fail
              go_roundw
              case rel =>
                refine ⟨HBR.out.1, HBR.out.2, t, r1 * 256 + b.toNat, w1 * 256, _, n1 - 1, c1 - 1, ?_, ?_, rfl, HI.out.1, by omega, ?_, by omega, by omega, by omega, ?_⟩
                · rw [HI.out.2.2.2.2]
                · go_num
                · intro _ ad e
                  have hp := HI.out.2.1 HI.out.2.2.2.1 _ rfl
                  split at e <;> (injection e with e; subst e; exact hp)
                · rw [← HI.out.2.2.1, cnorm_step _ _ _ _ (by omega)]
              case measure => simp; omega
      · have d2 : decide (bd ≤ rest) = true := decide_eq_true (by omega)
        have HG : Hid (cget code rest wide c = (cnorm code (rest - bd) (wide - bd)).map (fun x => (1, x))) := by
          show _ = _
          unfold cget
          rw [if_pos ⟨HC.out, hrw⟩, ← HE.out.2, if_neg hbit]
        go_upto_region 8 with (fail)
        have s1 : IntKind.u32.wrap ((rest : Int) - (bd : Int)) = ((rest - bd : Nat) : Int) := by rw [IntWalk.u32_in _ ⟨by omega, by omega⟩]; omega
        have s2 : IntKind.u32.wrap ((wide : Int) - (bd : Int)) = ((wide - bd : Nat) : Int) := by rw [IntWalk.u32_in _ ⟨by omega, by omega⟩]; omega
        go_quiet (fail)
        clear s1 s2
        obtain ⟨r0, hr0⟩ : ∃ r0, r0 = rest - bd := ⟨_, rfl⟩
        obtain ⟨w0, hw0⟩ : ∃ w0, w0 = wide - bd := ⟨_, rfl⟩
        rw [← hr0, ← hw0] at HG ⊢
        have hrw0 : r0 < w0 := by omega
        have hw00 : w0 < 4294967296 := by omega
        clear hr0 hw0
        go_wp2_with fail
        go_loopw [8, 9, 10] (NormRel w g P #[.slice A n cp, .int .u32 (rest : Int), .int .u32 (wide : Int)] (cnorm code r0 w0)) (fun _ _ v _ => match v with | .slice _ n _ => n | _ => 0)
        case atStart => exact ⟨HH.out.1, (by repeat' (first | with_reducible exact Mod.refl _ _ | with_reducible refine Mod.drewN ?_ _ | with_reducible refine Mod.drew ?_ | with_reducible refine Mod.setCell ?_ ?_ _ | exact Or.inl rfl)), code, r0, w0, A, n, cp, rfl, rfl, rfl, HH.out.2.1, hcap, HH.out.2.2.1, by omega, by omega, hn, rfl⟩
        case round =>
          obtain ⟨hbr, hMr, code1, r1, w1, A1, n1, c1, rfl, rfl, rfl, hin1, hcap1, hP1, hrw1, hw1, hn1, hcn⟩ := hrel
          have k0 : wr.cell? ⟨g, 0, none⟩ = some (.slice A n cp) := hbr.cell 0
          have k1 : wr.cell? ⟨g, 1, none⟩ = some (.int .u32 (rest : Int)) := hbr.cell 1
          have k2 : wr.cell? ⟨g, 2, none⟩ = some (.int .u32 (wide : Int)) := hbr.cell 2
          have g0 := hbr.frozen 0
          have g1 := hbr.frozen 1
          have g2 := hbr.frozen 2
          have hlr := hbr.lt
          have HBR := Lib.hid (And.intro hbr hMr)
          clear hbr hMr
          have hl1 := hin1.1
          by_cases hdone : 16777216 ≤ w1
          · have d3 : decide ((w1 : Int) < 16777216) = false := decide_eq_false (by omega)
            have HN : Hid (cget code rest wide c = some (1, code1, r1, w1)) := by
              show _ = _
              rw [HG.out, ← hcn, cnorm_done _ _ _ hdone]
              rfl
            have HI := Lib.hid (And.intro hin1 hP1)
            clear hin1 hP1 hcn hl1
            go_wp2_with fail
            go_ret2
            refine .inr ⟨1, code1, r1, w1, HN.out, by omega, rfl, ⟨A1, n1, c1, ?_, ?_, hcap1, HI.out.2, by omega, by omega, hn1⟩, ?_⟩
            · refine Blk.put (i := 2) (cs := #[.slice A1 n1 c1, .int .u32 (r1 : Int), .int .u32 (wide : Int)]) ?_ rfl
              refine Blk.put (i := 1) (cs := #[.slice A1 n1 c1, .int .u32 (rest : Int), .int .u32 (wide : Int)]) ?_ rfl
              refine Blk.put (i := 0) (cs := #[.slice A n cp, .int .u32 (rest : Int), .int .u32 (wide : Int)]) ?_ rfl
              exact HBR.out.1
            · exact HI.out.1.mod (S := (· = g)) (by repeat' (first | with_reducible exact Mod.refl _ _ | with_reducible refine Mod.drewN ?_ _ | with_reducible refine Mod.drew ?_ | with_reducible refine Mod.setCell ?_ ?_ _ | exact Or.inl rfl)) (fun h0 ad e hj => hPg (hj ▸ HI.out.2 h0 ad e))
            · exact (HBR.out.2.mono (fun _ h => h.elim)).trans (S := (· = g)) (by repeat' (first | with_reducible exact Mod.refl _ _ | with_reducible refine Mod.drewN ?_ _ | with_reducible refine Mod.drew ?_ | with_reducible refine Mod.setCell ?_ ?_ _ | exact Or.inl rfl))
          · have d3 : decide ((w1 : Int) < 16777216) = true := decide_eq_true (by omega)
            cases code1 with
            | nil =>
              obtain rfl : n1 = 0 := by simpa using hl1.symm
              have HN : Hid (cget code rest wide c = none) := by
                show _ = _
                rw [HG.out, ← hcn, cnorm_none _ _ (by omega)]
                rfl
              clear hin1 hP1 hcn hl1
              go_wp2_with fail
              go_ret2
              exact .inl ⟨HN.out, 41, rfl, rfl, HBR.out.2⟩
            | cons b t =>
              have hn0 : 0 < n1 := by simp at hl1; omega
              obtain ⟨bb, off, hA1, hbb, hcell⟩ := hin1.place hn0
              subst hA1
              have k0 := hcell 0 hn0
              rw [Nat.add_zero] at k0
              simp only [List.getD_cons_zero] at k0
              have hx : b.toNat < 256 := UInt8.toNat_lt b
              have d4 : ((n1 : Int) == 0) = false := beq_eq_false_iff_ne.2 (by omega)
              have hin2 := hin1.from_ (k := 1) (by omega) hcap1
              have HI := Lib.hid (And.intro hin2 (And.intro hP1 (And.intro hcn (And.intro hn0 (or32 r1 b.toNat (by omega) hx)))))
              clear hin1 hP1 hcn hl1 hin2 hcell
              go_wp2_with fail
              go_roundw
              case rel =>
                refine ⟨HBR.out.1, HBR.out.2, t, r1 * 256 + b.toNat, w1 * 256, _, n1 - 1, c1 - 1, ?_, ?_, rfl, HI.out.1, by omega, ?_, by omega, by omega, by omega, ?_⟩
                · rw [HI.out.2.2.2.2]
                · go_num
                · intro _ ad e
                  have hp := HI.out.2.1 HI.out.2.2.2.1 _ rfl
                  split at e <;> (injection e with e; subst e; exact hp)
                · rw [← HI.out.2.2.1, cnorm_step _ _ _ _ (by omega)]
              case measure => simp; omega
    · have d1 : decide (wide ≤ rest) = true := decide_eq_true (by omega)
      have HR : Hid (cget code rest wide c = none) := if_neg (fun h => hrw h.2)
      go_enter Tryz.func271, Tryz.ntmps271
      go_wp2_with fail
      refine (cRight _ c).mono ?_
      rintro e w1 ⟨rfl, rfl⟩
      rw [HC.out]
      go_upto_region 3 with (fail)
      go_quiet (fail)
      go_wp2_with fail
      go_ret2
      exact .inl ⟨HR.out, 41, rfl, rfl, (Mod.refl _ _).drewN _⟩
end Go.Proofs.YtmkopcojnibhlaaGreatDoor
