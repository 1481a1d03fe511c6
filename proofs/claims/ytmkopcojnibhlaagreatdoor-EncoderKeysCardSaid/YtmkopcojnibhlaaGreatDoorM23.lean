/-
  The coder's encoder, plain.
-/
import Derived.Test.YtmkopcojnibhlaaGreatDoorM8
import Derived.Test.YtmkopcojnibhlaaGreatDoorM1
import Derived.Test.YtmkopcojnibhlaaGreatDoorM13
namespace Go.Proofs.YtmkopcojnibhlaaGreatDoor
open Go.RowKit

/-- A code's first i bytes take a number: the last of them first, the carry goes up. -/
def eaddAt : Nat → List UInt8 → Nat → List UInt8
  | 0, L, _ => L
  | i + 1, L, c => if c = 0 then L else eaddAt i (L.set i (UInt8.ofNat ((c + (L.getD i 0).toNat) % 256))) ((c + (L.getD i 0).toNat) / 256)
def eadd (code : List UInt8) (c : Nat) : List UInt8 := eaddAt code.length code c
/-- A range that is too narrow takes a byte more. -/
def enorm (code : List UInt8) (w : Nat) : List UInt8 × Nat := if w < 16777216 then (code ++ [0], w * 256) else (code, w)
/-- A bit is put behind. -/
def eput (code : List UInt8) (wide c bit : Nat) : List UInt8 × Nat := if bit = 0 then enorm code (wide / 2048 * c) else enorm (eadd code (wide / 2048 * c)) (wide - wide / 2048 * c)
theorem eaddAt_length (i : Nat) : ∀ (L : List UInt8) (c : Nat), (eaddAt i L c).length = L.length := by
  induction i with
  | zero => intro L c; rfl
  | succ i ih =>
    intro L c
    unfold eaddAt
    split
    · rfl
    · rw [ih, List.length_set]
theorem eadd_length (L : List UInt8) (c : Nat) : (eadd L c).length = L.length := eaddAt_length _ _ _
theorem eaddAt_0 (i : Nat) (L : List UInt8) : eaddAt i L 0 = L := by
  cases i <;> simp [eaddAt]
theorem enorm_length (L : List UInt8) (w : Nat) : L.length ≤ (enorm L w).1.length ∧ (enorm L w).1.length ≤ L.length + 1 := by
  unfold enorm
  split <;> simp
theorem eput_length (L : List UInt8) (w c b : Nat) : L.length ≤ (eput L w c b).1.length ∧ (eput L w c b).1.length ≤ L.length + 1 := by
  unfold eput
  split
  · exact enorm_length _ _
  · have := enorm_length (eadd L (w / 2048 * c)) (w - w / 2048 * c)
    rwa [eadd_length] at this
theorem ebound_lt {w c : Nat} (hc : 31 ≤ c ∧ c ≤ 2017) (hw : 16777216 ≤ w ∧ w < 4294967296) : 253952 ≤ w / 2048 * c ∧ w / 2048 * c + 253952 ≤ w := by
  obtain ⟨h1, h2⟩ := hc
  have a1 : 8192 * 31 ≤ w / 2048 * c := Nat.mul_le_mul (by omega) h1
  have a2 : w / 2048 * c ≤ w / 2048 * 2017 := Nat.mul_le_mul_left _ h2
  omega
theorem eput_wide {w c b : Nat} (L : List UInt8) (hc : 31 ≤ c ∧ c ≤ 2017) (hw : 16777216 ≤ w ∧ w < 4294967296) : 16777216 ≤ (eput L w c b).2 ∧ (eput L w c b).2 < 4294967296 := by
  obtain ⟨a1, a2⟩ := ebound_lt hc hw
  unfold eput enorm
  split <;> split <;> dsimp only <;> omega
end Go.Proofs.YtmkopcojnibhlaaGreatDoor

/-
  A row of bytes of one's own: its block, stores into it.
-/
namespace Go.Proofs.YtmkopcojnibhlaaGreatDoor
open Go.RowKit

theorem Bytes.ne_ {w : World} {B b n c : Nat} {l : List UInt8} (h : Bytes w B (.slice (some ⟨b, 0, none⟩) n c) l) {g : Nat} {t : TypeId} {cs : Array Value} (hb : Blk w g t cs) (ht : t ≠ 5) : b ≠ g := by
  rintro rfl
  rcases h.2 with ⟨h', _⟩ | ⟨g', cap', cur, h', _, hg, _⟩
  · cases h'
  · injection h' with e1 e2 e3
    injection e1 with e1
    injection e1 with e1 _ _
    subst e1
    have h2 : w.heap[b]? = some (.cells cs t (0, 0)) := hb
    rw [hg] at h2
    injection h2 with h2
    injection h2 with _ h3 _
    exact ht h3.symm
theorem Bytes.far {w : World} {B b n c : Nat} {l : List UInt8} (h : Bytes w B (.slice (some ⟨b, 0, none⟩) n c) l) {p : Addr} (hp : b ≠ p.block) (u : Value) : Bytes (w.setCell p u) B (.slice (some ⟨b, 0, none⟩) n c) l :=
  h.mod ((Mod.refl (· = p.block) w).setCell (.inl rfl) u) (fun g e => by simp only [Value.ownBlock, Option.some.injEq] at e; subst e; exact hp)
theorem Bytes.put {w : World} {B b n c : Nat} {l : List UInt8} (h : Bytes w B (.slice (some ⟨b, 0, none⟩) n c) l) (i : Nat) (x : UInt8) : Bytes (w.setCell ⟨b, i, none⟩ (.int .u8 (x.toNat : Int))) B (.slice (some ⟨b, 0, none⟩) n c) (l.set i x) := by
  have hn : n = l.length := by
    rcases h.2 with ⟨h', _⟩ | ⟨g', cap', cur, h', _⟩
    · cases h'
    · injection h'
  subst hn
  have h1 := (World.ownsRow.stored h i (.int .u8 (x.toNat : Int))).1
  have e : u8s (l.set i x) = (u8s l).set i (.int .u8 (x.toNat : Int)) := by simp [u8s, List.map_set]
  unfold Bytes
  rw [e, List.length_set]
  exact h1
theorem Bytes.low {w : World} {B b n c : Nat} {l : List UInt8} (h : Bytes w B (.slice (some ⟨b, 0, none⟩) n c) l) : B ≤ b ∧ b < w.heap.size := World.ownsRow.lt h b rfl
theorem Bytes.frozen {w : World} {B b n c : Nat} {l : List UInt8} (h : Bytes w B (.slice (some ⟨b, 0, none⟩) n c) l) (j : Nat) : w.frozen? ⟨b, j, none⟩ = false := by
  have hn : n = l.length := by
    rcases h.2 with ⟨h', _⟩ | ⟨g', cap', cur, h', _⟩
    · cases h'
    · injection h'
  subst hn
  exact World.ownsRow.frozenAt h j
theorem Bytes.putN {w : World} {B b n c : Nat} {l : List UInt8} (h : Bytes w B (.slice (some ⟨b, 0, none⟩) n c) l) (i v : Nat) (hv : v < 256) : Bytes (w.setCell ⟨b, i, none⟩ (.int .u8 (v : Int))) B (.slice (some ⟨b, 0, none⟩) n c) (l.set i (UInt8.ofNat v)) := by
  have h1 := h.put i (UInt8.ofNat v)
  rwa [UInt8.toNat_ofNat', Nat.mod_eq_of_lt hv] at h1
theorem Bytes.apart {w : World} {B : Nat} {v : Value} {l : List UInt8} (h : Bytes w B v l) {g : Nat} {t : TypeId} {cs : Array Value} (hb : Blk w g t cs) (ht : t ≠ 5) : ¬ v.ownBlock = some g := by
  intro e
  rcases h.2 with ⟨h', _⟩ | ⟨g', cap', cur, h', _, hg, _⟩
  · rw [h'] at e; cases e
  · rw [h'] at e
    simp only [Value.ownBlock, Option.some.injEq] at e
    subst e
    have h2 : w.heap[g']? = some (.cells cs t (0, 0)) := hb
    rw [hg] at h2
    injection h2 with h2
    injection h2 with _ h3 _
    exact ht h3.symm
theorem Bytes.down {w : World} {B B' : Nat} {v : Value} {l : List UInt8} (h : Bytes w B v l) (hB : B' ≤ B) : Bytes w B' v l :=
  ⟨h.1, h.2.imp id fun ⟨g, cap, cur, h1, h2, h3⟩ => ⟨g, cap, cur, h1, Nat.le_trans hB h2, h3⟩⟩
end Go.Proofs.YtmkopcojnibhlaaGreatDoor

/-
  The coder's encoder, walked.
-/
namespace Go.Proofs.YtmkopcojnibhlaaGreatDoor
open Go.RowKit

/-- An encoder in memory: its code in a row of its own, its range. -/
structure EAt (w : World) (g : Nat) (v : Value) (code : List UInt8) (wide : Nat) : Prop where
  blk : Blk w g 153 #[v, .int .u32 (wide : Int)]
  own : Bytes w 0 v code
  four : 4 ≤ code.length
  lo : 16777216 ≤ wide
  hi : wide < 4294967296
theorem EAt.quiet {w w' : World} {g : Nat} {v : Value} {code : List UInt8} {wide : Nat} (h : EAt w g v code wide) (hm : Mod (fun _ => False) w w') : EAt w' g v code wide := ⟨h.blk.keep hm (fun h => h), h.own.quiet hm, h.four, h.lo, h.hi⟩
theorem EAt.shape {w : World} {g : Nat} {v : Value} {code : List UInt8} {wide : Nat} (h : EAt w g v code wide) : ∃ r k, v = .slice (some ⟨r, 0, none⟩) code.length k ∧ r ≠ g := by
  obtain ⟨A, k, rfl⟩ := own_shape h.own
  obtain ⟨r, rfl, _⟩ := h.own.some_ (by have := h.four; omega)
  exact ⟨r, k, rfl, h.own.ne_ h.blk (by decide)⟩

set_option maxRecDepth 100000 in
theorem eBegin (w : World) (g : Nat) (v : Value) (code : List UInt8) (wide : Nat) (h : EAt w g v code wide) : Calls Tryz.prog 86 #[.pointer (some ⟨g, 0, none⟩)] w fun e w' => e = .returned (.tuple #[]) ∧ w = w' := by
  obtain ⟨r, k, rfl, _⟩ := h.shape
  obtain ⟨bc, bf⟩ := h.blk.both
  have d1 : (((code.length : Nat) : Int) == 0) = false := by have := h.four; simp; intro e; simp [e] at this
  clear h
  go_enter Tryz.func86, Tryz.ntmps86
  go_wp2_with fail
  go_end0
  exact ⟨rfl, rfl⟩
set_option maxRecDepth 100000 in
theorem eBegin0 (w : World) (g : Nat) (h : Blk w g 153 #[.slice none 0 0, .int .u32 0]) : Calls Tryz.prog 86 #[.pointer (some ⟨g, 0, none⟩)] w fun e w' => e = .returned (.tuple #[]) ∧ EAt w' g (.slice (some ⟨w.heap.size, 0, none⟩) 4 4) [0, 0, 0, 0] 4294967295 ∧ Mod (· = g) w w' := by
  obtain ⟨bc, bf⟩ := h.both
  have bl := h.lt
  have hmk : (Instr.makeSlice 36 (.int .i64 4) (.int .i64 4)).run Tryz.prog w = .ok (.slice (some ⟨w.heap.size, 0, none⟩) 4 4) (w.alloc (.cells (u8s [0, 0, 0, 0]).toArray 5)) := run_mk_u8 w 4 (by omega)
  have H := Lib.hid h
  clear h
  go_enter Tryz.func86, Tryz.ntmps86
  go_wp2_with fail
  go_end0
  have hb := ((H.out.put (i := 0) (u := .slice (some ⟨w.heap.size, 0, none⟩) 4 4) rfl).put (i := 1) (u := .int .u32 4294967295) rfl).alloc (.cells (u8s [0, 0, 0, 0]).toArray 5)
  have hr : Blk (((w.setCell ⟨g, 0, none⟩ (.slice (some ⟨w.heap.size, 0, none⟩) 4 4)).setCell ⟨g, 1, none⟩ (.int .u32 4294967295)).alloc (.cells (u8s [0, 0, 0, 0]).toArray 5)) w.heap.size 5 (u8s [0, 0, 0, 0]).toArray := by
    have := Blk.new ((w.setCell ⟨g, 0, none⟩ (.slice (some ⟨w.heap.size, 0, none⟩) 4 4)).setCell ⟨g, 1, none⟩ (.int .u32 4294967295)) 5 (u8s [0, 0, 0, 0]).toArray
    simpa using this
  exact ⟨rfl, ⟨hb, Bytes.of_blk (l := [0, 0, 0, 0]) (Nat.zero_le _) hr (by decide), by decide, by omega, by omega⟩, (((Mod.refl (fun j => j = g) w).setCell (p := ⟨g, 0, none⟩) (.inl rfl) _).setCell (p := ⟨g, 1, none⟩) (.inl rfl) _).alloc _⟩
set_option maxRecDepth 100000 in
set_option maxHeartbeats 1000000 in
theorem eNew (w : World) : Calls Tryz.prog 47 #[] w fun e w' => ∃ g v, e = .returned (.pointer (some ⟨g, 0, none⟩)) ∧ EAt w' g v [0, 0, 0, 0] 4294967295 ∧ w.heap.size ≤ g ∧ (∀ j, v.ownBlock = some j → w.heap.size ≤ j) ∧ Mod (fun _ => False) w w' := by
  have hb := Blk.new w 153 #[.slice none 0 0, .int .u32 0]
  have H := Lib.hid hb
  clear hb
  go_enter Tryz.func47, Tryz.ntmps47
  go_wp2_with fail
  refine (eBegin0 _ _ H.out).mono ?_
  rintro e w1 ⟨rfl, hE, hm⟩
  have H1 := Lib.hid (And.intro hE hm)
  clear hE hm
  go_wp2_with fail
  go_ret
  refine ⟨_, _, rfl, H1.out.1, Nat.le_refl _, fun j e => ?_, ((Mod.refl (fun _ => False) w).alloc _).into H1.out.2 (fun i e => .inr (by omega))⟩
  simp only [Value.ownBlock, Option.some.injEq] at e
  subst e
  simp
def AddRel (w : World) (g r n k : Nat) (wide : Nat) (R : List UInt8) (v4 v5 : Value) (wr : World) : Prop :=
  ∃ (m c : Nat) (L : List UInt8), m ≤ n ∧ v4 = .int .u64 (c : Int) ∧ v5 = .int .i64 ((m : Int) - 1) ∧ L.length = n ∧ c < 4294967296 ∧ eaddAt m L c = R ∧ Bytes wr 0 (.slice (some ⟨r, 0, none⟩) n k) L ∧ Blk wr g 153 #[.slice (some ⟨r, 0, none⟩) n k, .int .u32 (wide : Int)] ∧ Mod (· = r) w wr
set_option maxRecDepth 100000 in
set_option maxHeartbeats 2000000 in
theorem eAdd (w : World) (g r k : Nat) (code : List UInt8) (wide : Nat) (h : EAt w g (.slice (some ⟨r, 0, none⟩) code.length k) code wide) (hl : code.length ≤ 1048576) (c : Nat) (hc : c < 4294967296) :
    Calls Tryz.prog 239 #[.pointer (some ⟨g, 0, none⟩), .int .u32 (c : Int)] w fun e w' => e = .returned (.tuple #[]) ∧ EAt w' g (.slice (some ⟨r, 0, none⟩) code.length k) (eadd code c) wide ∧ Mod (· = r) w w' := by
  obtain ⟨n, hn⟩ : ∃ n, n = code.length := ⟨_, rfl⟩
  rw [← hn] at h hl ⊢
  obtain ⟨bc, bf⟩ := h.blk.both
  have H := Lib.hid (And.intro h hn)
  clear h hn
  go_enter Tryz.func239, Tryz.ntmps239
  go_wp2_with fail
  go_loopw [4, 5] (AddRel w g r n k wide (eadd code c)) (fun _ v _ => (intOf v + 1).toNat)
  case atStart => exact ⟨n, c, code, Nat.le_refl _, rfl, rfl, H.out.2.symm, hc, by rw [H.out.2]; rfl, H.out.1.own, H.out.1.blk, Mod.refl _ _⟩
  case round =>
    clear bc bf
    obtain ⟨m, cc, L, hm, rfl, rfl, hL, hcc, hR, ho, hb, hM⟩ := hrel
    rename World => wr
    obtain ⟨bc, bf⟩ := hb.both
    by_cases hm0 : m = 0
    · subst hm0
      have HE := Lib.hid (And.intro hR (And.intro ho (And.intro hb (And.intro hM hL))))
      clear hR ho hb hM hL
      go_wp2_with fail
      go_end0
      refine ⟨rfl, ⟨HE.out.2.2.1, ?_, ?_, H.out.1.lo, H.out.1.hi⟩, HE.out.2.2.2.1⟩
      · rw [← HE.out.1]
        exact HE.out.2.1
      · rw [eadd_length]
        exact H.out.1.four
    · obtain ⟨m, rfl⟩ : ∃ m', m = m' + 1 := ⟨m - 1, by omega⟩
      have e1 : (((m + 1 : Nat) : Int) - 1) = (m : Int) := by omega
      rw [e1]
      by_cases hc0 : cc = 0
      · subst hc0
        rw [eaddAt_0] at hR
        have HE := Lib.hid (And.intro hR (And.intro ho (And.intro hb (And.intro hM hL))))
        clear hR ho hb hM hL e1
        go_wp2_with fail
        go_end0
        refine ⟨rfl, ⟨HE.out.2.2.1, ?_, ?_, H.out.1.lo, H.out.1.hi⟩, HE.out.2.2.2.1⟩
        · rw [← HE.out.1]
          exact HE.out.2.1
        · rw [eadd_length]
          exact H.out.1.four
      · have hml : m < L.length := by omega
        have bcell := ho.cell m hml
        have bfr := ho.frozen m
        have brl := ho.low.2
        obtain ⟨x, hx⟩ : ∃ x, x = (L.getD m 0).toNat := ⟨_, rfl⟩
        have hx8 : x < 256 := by rw [hx]; exact UInt8.toNat_lt _
        rw [← hx] at bcell
        have d1 : decide (0 < (cc : Int)) = true := decide_eq_true (by omega)
        unfold eaddAt at hR
        rw [if_neg hc0, ← hx] at hR
        have hne := ho.ne_ hb (by decide)
        have hw1 : IntKind.u64.wrap (x : Int) = (x : Int) := IntWalk.u64_in _ ⟨by omega, by omega⟩
        have hw2 : IntKind.u64.wrap ((cc : Int) + (x : Int)) = (cc : Int) + (x : Int) := IntWalk.u64_in _ ⟨by omega, by omega⟩
        have HX := Lib.hid hx
        clear hx
        have HE := Lib.hid (And.intro hR (And.intro ho (And.intro hb (And.intro hM hL))))
        clear hR ho hb hM hL e1
        go_wp2_with fail
        rw [show ((cc : Int) + (x : Int)) % 256 = (((cc + x) % 256 : Nat) : Int) by omega, show ((cc : Int) + (x : Int)) / 256 = (((cc + x) / 256 : Nat) : Int) by omega]
        refine ⟨⟨m, (cc + x) / 256, L.set m (UInt8.ofNat ((cc + x) % 256)), by omega, rfl, rfl, by rw [List.length_set]; exact HE.out.2.2.2.2, by omega, HE.out.1, HE.out.2.1.putN m _ (Nat.mod_lt _ (by omega)), HE.out.2.2.1.far (p := ⟨r, m, none⟩) (Ne.symm hne) _, HE.out.2.2.2.1.setCell (p := ⟨r, m, none⟩) (.inl rfl) _⟩, ?_⟩
        simp only [intOf]
        omega
end Go.Proofs.YtmkopcojnibhlaaGreatDoor

/-
  The coder's encoder: a bit is put.
-/
namespace Go.Proofs.YtmkopcojnibhlaaGreatDoor
open Go.RowKit

/-- What a put does. -/
def EPost (w : World) (g : Nat) (v : Value) (x : List UInt8 × Nat) (e : Ending) (w' : World) : Prop :=
  ∃ v', e = .returned (.int .i64 0) ∧ EAt w' g v' x.1 x.2 ∧ (∀ j, v'.ownBlock = some j → v.ownBlock = some j ∨ w.heap.size ≤ j) ∧ Mod (fun j => j = g ∨ v.ownBlock = some j) w w'
def ENorm (w : World) (g : Nat) (v : Value) (x : List UInt8 × Nat) (wr : World) : Prop :=
  ∃ v1 code1 w1, Blk wr g 153 #[v1, .int .u32 ((w1 : Nat) : Int)] ∧ Bytes wr 0 v1 code1 ∧ 4 ≤ code1.length ∧ (w1 < 16777216 → code1.length ≤ 1048575) ∧ 65536 ≤ w1 ∧ w1 < 4294967296 ∧ enorm code1 w1 = x ∧ (∀ j, v1.ownBlock = some j → v.ownBlock = some j ∨ w.heap.size ≤ j) ∧ Mod (fun j => j = g ∨ v.ownBlock = some j) w wr
def eWide (g : Nat) (w : World) : Nat := match w.cell? ⟨g, 1, none⟩ with | some (.int _ n) => 4294967296 - n.toNat | _ => 0
theorem eWide_of {w : World} {g : Nat} {v : Value} {x : Nat} (h : Blk w g 153 #[v, .int .u32 (x : Int)]) : eWide g w = 4294967296 - x := by
  unfold eWide
  rw [show w.cell? ⟨g, 1, none⟩ = some (.int .u32 (x : Int)) from h.cell 1]
  simp
theorem enorm_done {code : List UInt8} {w : Nat} (h : 16777216 ≤ w) : enorm code w = (code, w) := by
  unfold enorm
  rw [if_neg (by omega)]
theorem enorm_more {code : List UInt8} {w : Nat} (h : w < 16777216) : enorm code w = (code ++ [0], w * 256) := by
  unfold enorm
  rw [if_pos h]

set_option maxRecDepth 100000 in
set_option maxHeartbeats 4000000 in
theorem ePut (w : World) (g : Nat) (v : Value) (code : List UInt8) (wide c bit : Nat) (h : EAt w g v code wide) (hl : code.length ≤ 1048575) (hc : chanceOk c = true) (hb : bit ≤ 1) :
    Calls Tryz.prog 196 #[.pointer (some ⟨g, 0, none⟩), .int .u16 (c : Int), .int .i64 (bit : Int)] w (EPost w g v (eput code wide c bit)) := by
  obtain ⟨r, k, rfl, hrg⟩ := h.shape
  have hcb : 31 ≤ c ∧ c ≤ 2017 := by unfold chanceOk at hc; rwa [decide_eq_true_eq] at hc
  have hbd := ebound_lt hcb ⟨h.lo, h.hi⟩
  have hlo := h.lo
  have hhi := h.hi
  obtain ⟨bd, hbe⟩ : ∃ bd, bd = wide / 2048 * c := ⟨_, rfl⟩
  rw [← hbe] at hbd
  obtain ⟨hb1, hb2⟩ := hbd
  have e1 : (wide : Int) / 2048 * (c : Int) % 4294967296 = (bd : Int) := by
    have : (wide : Int) / 2048 * (c : Int) = (bd : Int) := by rw [hbe]; simp
    rw [this]
    omega
  have hEB := eBegin w g _ code wide h
  obtain ⟨bc, bf⟩ := h.blk.both
  have bl := h.blk.lt
  obtain ⟨hc1, hc2⟩ := hcb
  have H := Lib.hid (And.intro h (And.intro hc (And.intro e1 (And.intro hbe hEB))))
  clear h hc e1 hbe hEB
  have hbit : bit = 0 ∨ bit = 1 := by omega
  refine Calls.mono (R := EPost w g (.slice (some ⟨r, 0, none⟩) code.length k) (eput code wide c bit)) ?_ (fun _ _ h => h)
  have hmv : Mod (fun j => j = g ∨ (Value.slice (some ⟨r, 0, none⟩) code.length k).ownBlock = some j) w (w.setCell ⟨g, 1, none⟩ (.int .u32 (bd : Int))) := (Mod.refl _ w).setCell (p := ⟨g, 1, none⟩) (.inl (.inl rfl)) _
  go_enter Tryz.func196, Tryz.ntmps196
  rcases hbit with rfl | rfl
  · go_wp2_with fail
    refine (cRight _ c).mono ?_
    rintro e w1 ⟨rfl, rfl⟩
    rw [H.out.2.1]
    go_wp2_with fail
    refine H.out.2.2.2.2.mono ?_
    rintro e w1 ⟨rfl, rfl⟩
    go_upto_region 5 with (fail)
    rw [H.out.2.2.1]
    have hN : ENorm w g (.slice (some ⟨r, 0, none⟩) code.length k) (eput code wide c 0) (w.setCell ⟨g, 1, none⟩ (.int .u32 (bd : Int))) :=
      ⟨_, code, bd, H.out.1.blk.put (i := 1) rfl, H.out.1.own.far (p := ⟨g, 1, none⟩) hrg _, H.out.1.four, fun _ => hl, by omega, by omega, by rw [H.out.2.2.2.1]; rfl, fun j e => .inl e, hmv⟩
    have HN := Lib.hid hN
    clear hN hmv
    go_wp2_with fail
    go_loopw [] (ENorm w g (.slice (some ⟨r, 0, none⟩) code.length k) (eput code wide c 0)) (fun wr => eWide g wr)
    case atStart => exact HN.out
    case round =>
      clear HN
      obtain ⟨v1, code1, x1, hb1, ho1, h41, hl1, hlo1, hhi1, hx1, hap1, hm1⟩ := hrel
      rename World => wr
      clear bc bf bl
      obtain ⟨bc, bf⟩ := hb1.both
      have bl := hb1.lt
      by_cases hn : x1 < 16777216
      · have hew := eWide_of hb1
        obtain ⟨A1, k1, rfl⟩ := own_shape ho1
        obtain ⟨r1, rfl, _⟩ := ho1.some_ (by omega)
        have hr1 := ho1.ne_ hb1 (by decide)
        have hl2 := hl1 hn
        clear hl1
        have d9 : decide ((x1 : Int) < 16777216) = true := decide_eq_true (by omega)
        obtain ⟨y, hy⟩ : ∃ y, y = x1 * 256 := ⟨_, rfl⟩
        have hw8 : IntKind.u32.wrap ((x1 : Int) * 256) = (y : Int) := by
          rw [show (x1 : Int) * 256 = (y : Int) by omega]
          exact IntWalk.u32_in _ ⟨by omega, by omega⟩
        have hy1 : 16777216 ≤ y := by omega
        have hy2 : y < 4294967296 := by omega
        have hb2 := hb1.put (i := 1) (u := .int .u32 (y : Int)) rfl
        have ho2 := ho1.far (p := ⟨g, 1, none⟩) hr1 (.int .u32 (y : Int))
        have hm2 := hm1.setCell (p := ⟨g, 1, none⟩) (.inl (.inl rfl)) (.int .u32 (y : Int))
        rw [enorm_more hn, ← hy] at hx1
        have HA := Lib.hid (And.intro ho2 (And.intro hb2 (And.intro hm2 (And.intro hap1 (And.intro hx1 (And.intro hew hy))))))
        clear hy ho1 ho2 hb1 hb2 hm1 hm2 hap1 hx1 hew
        go_upto_region 11 with (fail)
        clear bc bf bl
        have hbz : Blk (wr.setCell ⟨g, 1, none⟩ (.int .u32 (y : Int))) g 153 #[.slice (some ⟨r1, 0, none⟩) code1.length k1, .int .u32 (y : Int)] := HA.out.2.1
        generalize wr.setCell ⟨g, 1, none⟩ (.int .u32 (y : Int)) = wz at *
        obtain ⟨bc, bf⟩ := hbz.both
        have bl := hbz.lt
        have HZ := Lib.hid hbz
        clear hbz
        go_wp2_with (at_builtin; have _t := HA; refine wpList_app_u8 _ rfl (.tmp 66) (.tmp 67) rfl 0 (.slice (some ⟨r1, 0, none⟩) code1.length k1) code1 0 rfl rfl HA.out.1 (Nat.zero_le _) (by omega) ?_; intro v5 w5 hown5 hM5 hJ5 hF5; clear hJ5; have HO := Lib.hid (And.intro hown5 (And.intro hM5 hF5)); have hb5 := HZ.out.keep hM5 (HA.out.1.apart HZ.out (by decide)); obtain ⟨bc5, bf5⟩ := hb5.both; have bl5 := hb5.lt; have H5 := Lib.hid hb5; clear hb5 hown5 hM5 hF5; refine Hid.out ?_)
        refine Lib.hid ?_
        clear bc bf bl d9 hw8
        obtain ⟨A5, k5, hv5⟩ := own_shape HO.out.1
        obtain ⟨n5, hn5⟩ : ∃ n5, n5 = (code1 ++ [0]).length := ⟨_, rfl⟩
        rw [← hn5] at hv5
        subst hv5
        have HN5 := Lib.hid hn5
        clear hn5
        go_wp2_with fail
        have hb6 := H5.out.put (i := 0) (u := .slice A5 n5 k5) rfl
        have hwz := HA.out.2.2.1.size
        refine ⟨⟨_, code1 ++ [0], y, hb6, HO.out.1.mod ((Mod.refl (fun j => j = g) w5).setCell (p := ⟨g, 0, none⟩) (.inl rfl) _) (fun j e hj => HO.out.1.apart H5.out (by decide) (hj ▸ e)), by simp; omega, fun h => by omega, by omega, hy2, (enorm_done hy1).trans HA.out.2.2.2.2.1, fun j e => ?_, (HA.out.2.2.1.into HO.out.2.1 (fun j e => ?_)).setCell (p := ⟨g, 0, none⟩) (.inl (.inl rfl)) _⟩, ?_⟩
        · rcases HO.out.2.2 j e with h1 | h1
          · exact HA.out.2.2.2.1 j h1
          · exact .inr (Nat.le_trans hwz h1)
        · rcases HA.out.2.2.2.1 j e with h1 | h1
          · exact .inl (.inr h1)
          · exact .inr h1
        · rw [eWide_of hb6, HA.out.2.2.2.2.2.1]
          omega
      · have d9 : decide ((x1 : Int) < 16777216) = false := decide_eq_false (by omega)
        rw [enorm_done (by omega)] at hx1
        have HX := Lib.hid (And.intro hx1 (And.intro hb1 (And.intro ho1 (And.intro hap1 hm1))))
        clear hx1 hb1 ho1 hap1 hm1
        go_wp2_with fail
        go_ret
        rw [← HX.out.1]
        exact ⟨v1, rfl, ⟨HX.out.2.1, HX.out.2.2.1, h41, by omega, hhi1⟩, HX.out.2.2.2.1, HX.out.2.2.2.2⟩
  · go_wp2_with fail
    refine (cRight _ c).mono ?_
    rintro e w1 ⟨rfl, rfl⟩
    rw [H.out.2.1]
    go_wp2_with fail
    refine H.out.2.2.2.2.mono ?_
    rintro e w1 ⟨rfl, rfl⟩
    go_upto_region 5 with (fail)
    rw [H.out.2.2.1]
    go_wp2_with fail
    refine (eAdd w g r k code wide H.out.1 (by omega) bd (by omega)).mono ?_
    rintro e w2 ⟨rfl, hE2, hm2⟩
    clear bc bf bl hmv
    obtain ⟨bc, bf⟩ := hE2.blk.both
    have bl := hE2.blk.lt
    have hws : IntKind.u32.wrap ((wide : Int) - (bd : Int)) = ((wide - bd : Nat) : Int) := by
      rw [show (wide : Int) - (bd : Int) = ((wide - bd : Nat) : Int) by omega]
      exact IntWalk.u32_in _ ⟨by omega, by omega⟩
    have hN : ENorm w g (.slice (some ⟨r, 0, none⟩) code.length k) (eput code wide c 1) (w2.setCell ⟨g, 1, none⟩ (.int .u32 ((wide - bd : Nat) : Int))) :=
      ⟨_, eadd code bd, wide - bd, hE2.blk.put (i := 1) rfl, hE2.own.far (p := ⟨g, 1, none⟩) hrg _, hE2.four, fun _ => by rw [eadd_length]; exact hl, by omega, by omega, by rw [H.out.2.2.2.1]; rfl, fun j e => .inl e, (hm2.mono (fun j e => .inr (by subst e; rfl))).setCell (p := ⟨g, 1, none⟩) (.inl (.inl rfl)) _⟩
    have HN := Lib.hid hN
    clear hN hE2 hm2
    go_wp2_with fail
    go_loopw [] (ENorm w g (.slice (some ⟨r, 0, none⟩) code.length k) (eput code wide c 1)) (fun wr => eWide g wr)
    case atStart => exact HN.out
    case round =>
      clear HN
      obtain ⟨v1, code1, x1, hb1, ho1, h41, hl1, hlo1, hhi1, hx1, hap1, hm1⟩ := hrel
      rename World => wr
      clear bc bf bl
      obtain ⟨bc, bf⟩ := hb1.both
      have bl := hb1.lt
      by_cases hn : x1 < 16777216
      · have hew := eWide_of hb1
        obtain ⟨A1, k1, rfl⟩ := own_shape ho1
        obtain ⟨r1, rfl, _⟩ := ho1.some_ (by omega)
        have hr1 := ho1.ne_ hb1 (by decide)
        have hl2 := hl1 hn
        clear hl1
        have d9 : decide ((x1 : Int) < 16777216) = true := decide_eq_true (by omega)
        obtain ⟨y, hy⟩ : ∃ y, y = x1 * 256 := ⟨_, rfl⟩
        have hw8 : IntKind.u32.wrap ((x1 : Int) * 256) = (y : Int) := by
          rw [show (x1 : Int) * 256 = (y : Int) by omega]
          exact IntWalk.u32_in _ ⟨by omega, by omega⟩
        have hy1 : 16777216 ≤ y := by omega
        have hy2 : y < 4294967296 := by omega
        have hb2 := hb1.put (i := 1) (u := .int .u32 (y : Int)) rfl
        have ho2 := ho1.far (p := ⟨g, 1, none⟩) hr1 (.int .u32 (y : Int))
        have hm2 := hm1.setCell (p := ⟨g, 1, none⟩) (.inl (.inl rfl)) (.int .u32 (y : Int))
        rw [enorm_more hn, ← hy] at hx1
        have HA := Lib.hid (And.intro ho2 (And.intro hb2 (And.intro hm2 (And.intro hap1 (And.intro hx1 (And.intro hew hy))))))
        clear hy ho1 ho2 hb1 hb2 hm1 hm2 hap1 hx1 hew
        go_upto_region 11 with (fail)
        clear bc bf bl
        have hbz : Blk (wr.setCell ⟨g, 1, none⟩ (.int .u32 (y : Int))) g 153 #[.slice (some ⟨r1, 0, none⟩) code1.length k1, .int .u32 (y : Int)] := HA.out.2.1
        generalize wr.setCell ⟨g, 1, none⟩ (.int .u32 (y : Int)) = wz at *
        obtain ⟨bc, bf⟩ := hbz.both
        have bl := hbz.lt
        have HZ := Lib.hid hbz
        clear hbz
        go_wp2_with (at_builtin; have _t := HA; refine wpList_app_u8 _ rfl (.tmp 66) (.tmp 67) rfl 0 (.slice (some ⟨r1, 0, none⟩) code1.length k1) code1 0 rfl rfl HA.out.1 (Nat.zero_le _) (by omega) ?_; intro v5 w5 hown5 hM5 hJ5 hF5; clear hJ5; have HO := Lib.hid (And.intro hown5 (And.intro hM5 hF5)); have hb5 := HZ.out.keep hM5 (HA.out.1.apart HZ.out (by decide)); obtain ⟨bc5, bf5⟩ := hb5.both; have bl5 := hb5.lt; have H5 := Lib.hid hb5; clear hb5 hown5 hM5 hF5; refine Hid.out ?_)
        refine Lib.hid ?_
        clear bc bf bl d9 hw8
        obtain ⟨A5, k5, hv5⟩ := own_shape HO.out.1
        obtain ⟨n5, hn5⟩ : ∃ n5, n5 = (code1 ++ [0]).length := ⟨_, rfl⟩
        rw [← hn5] at hv5
        subst hv5
        have HN5 := Lib.hid hn5
        clear hn5
        go_wp2_with fail
        have hb6 := H5.out.put (i := 0) (u := .slice A5 n5 k5) rfl
        have hwz := HA.out.2.2.1.size
        refine ⟨⟨_, code1 ++ [0], y, hb6, HO.out.1.mod ((Mod.refl (fun j => j = g) w5).setCell (p := ⟨g, 0, none⟩) (.inl rfl) _) (fun j e hj => HO.out.1.apart H5.out (by decide) (hj ▸ e)), by simp; omega, fun h => by omega, by omega, hy2, (enorm_done hy1).trans HA.out.2.2.2.2.1, fun j e => ?_, (HA.out.2.2.1.into HO.out.2.1 (fun j e => ?_)).setCell (p := ⟨g, 0, none⟩) (.inl (.inl rfl)) _⟩, ?_⟩
        · rcases HO.out.2.2 j e with h1 | h1
          · exact HA.out.2.2.2.1 j h1
          · exact .inr (Nat.le_trans hwz h1)
        · rcases HA.out.2.2.2.1 j e with h1 | h1
          · exact .inl (.inr h1)
          · exact .inr h1
        · rw [eWide_of hb6, HA.out.2.2.2.2.2.1]
          omega
      · have d9 : decide ((x1 : Int) < 16777216) = false := decide_eq_false (by omega)
        rw [enorm_done (by omega)] at hx1
        have HX := Lib.hid (And.intro hx1 (And.intro hb1 (And.intro ho1 (And.intro hap1 hm1))))
        clear hx1 hb1 ho1 hap1 hm1
        go_wp2_with fail
        go_ret
        rw [← HX.out.1]
        exact ⟨v1, rfl, ⟨HX.out.2.1, HX.out.2.2.1, h41, by omega, hhi1⟩, HX.out.2.2.2.1, HX.out.2.2.2.2⟩
end Go.Proofs.YtmkopcojnibhlaaGreatDoor
