/-
  coder.Decoder.End; book.get, at, topic.
-/
import Derived.Test.YtmkopcojnibhlaaGreatDoorM8
namespace Go.Proofs.YtmkopcojnibhlaaGreatDoor
open Go.RowKit

def EndPost (w : World) (code : List UInt8) (rest : Nat) (e : Ending) (w' : World) : Prop := (∃ er : Int, e = .returned (.int .i64 er) ∧ (code = [] ∧ rest = 0 ∧ er = 0 ∨ ¬ (code = [] ∧ rest = 0) ∧ (er == 0) = false)) ∧ w = w'
set_option maxHeartbeats 1000000 in
theorem cEnd (w : World) (g : Nat) (P : Nat → Prop) (code : List UInt8) (rest wide : Nat) (h : CodeAt w g P code rest wide) : Calls Tryz.prog 129 #[.pointer (some ⟨g, 0, none⟩)] w (EndPost w code rest) := by
  obtain ⟨A, n, cp, hb, hin, hcap, hP, hr, hw, hn⟩ := h
  have c0 : w.cell? ⟨g, 0, none⟩ = some (.slice A n cp) := hb.cell 0
  have c1 : w.cell? ⟨g, 1, none⟩ = some (.int .u32 (rest : Int)) := hb.cell 1
  have hl := hin.1
  clear hb hin hP
  by_cases h0 : n = 0
  · have hcode : code = [] := by apply List.eq_nil_of_length_eq_zero; omega
    subst h0
    by_cases h1 : rest = 0
    · subst h1
      have H := Lib.hid (And.intro hl hcode)
      clear hl hcode
      go_enter Tryz.func129, Tryz.ntmps129
      go_wp2_with fail
      go_ret
      exact ⟨⟨0, rfl, .inl ⟨H.out.2, rfl, rfl⟩⟩, rfl⟩
    · have d1 : ((rest : Int) != 0) = true := bne_iff_ne.2 (by omega)
      have H := Lib.hid (And.intro hl hcode)
      clear hl hcode
      go_enter Tryz.func129, Tryz.ntmps129
      go_wp2_with fail
      go_ret
      exact ⟨⟨41, rfl, .inr ⟨fun h => h1 h.2, rfl⟩⟩, rfl⟩
  · have hcode : code ≠ [] := by rintro rfl; simp at hl; omega
    have d1 : 0 < n := by omega
    have H := Lib.hid (And.intro hl hcode)
    clear hl hcode
    go_enter Tryz.func129, Tryz.ntmps129
    go_wp2_with fail
    go_ret
    exact ⟨⟨41, rfl, .inr ⟨fun h => H.out.2 h.1, rfl⟩⟩, rfl⟩

def BGetPost (w : World) (g gb : Nat) (P : Nat → Prop) (tb : TypeId) (cs : Array Value) (i p : Nat) (r : Option (Nat × List UInt8 × Nat × Nat)) (e : Ending) (w' : World) : Prop :=
  (r = none ∧ ∃ er : Int, (er == 0) = false ∧ e = .returned (.tuple #[.int .i64 0, .int .i64 er]) ∧ Mod (fun _ => False) w w') ∨
  ∃ bit code rest wide, r = some (bit, code, rest, wide) ∧ bit ≤ 1 ∧ e = .returned (.tuple #[.int .i64 (bit : Int), .int .i64 0]) ∧ CodeAt w' g P code rest wide ∧ Blk w' gb tb (cs.setIfInBounds i (.int .u16 ((cnext p bit : Nat) : Int))) ∧ Mod (fun j => j = g ∨ j = gb) w w'

theorem cget_ok {code : List UInt8} {rest wide c : Nat} {x : Nat × List UInt8 × Nat × Nat} (h : cget code rest wide c = some x) : chanceOk c = true := by
  unfold cget at h
  split at h
  · rename_i hc; exact hc.1
  · cases h

set_option maxRecDepth 100000 in
set_option maxHeartbeats 1000000 in
theorem bGet (w : World) (g gb : Nat) (P : Nat → Prop) (hPg : ¬ P g) (hPb : ¬ P gb) (hgb : g ≠ gb) (tb : TypeId) (cs : Array Value) (i p : Nat) (code : List UInt8) (rest wide : Nat) (h : CodeAt w g P code rest wide) (hb : Blk w gb tb cs) (hi : cs[i]? = some (.int .u16 (p : Int))) :
    Calls Tryz.prog 265 #[.pointer (some ⟨g, 0, none⟩), .pointer (some ⟨gb, i, none⟩)] w (BGetPost w g gb P tb cs i p (cget code rest wide p)) := by
  have c0 : w.cell? ⟨gb, i, none⟩ = some (.int .u16 (p : Int)) := (hb.cell i).trans hi
  have G1 := cGet w g P hPg code rest wide p h
  have HH := Lib.hid (And.intro hb (And.intro hi hgb))
  clear hb hi
  go_enter Tryz.func265, Tryz.ntmps265
  go_wp2_with fail
  refine G1.mono ?_
  clear G1
  rintro e w1 (⟨hr, er, her, rfl, hm⟩ | ⟨bit, code1, rest1, wide1, hr, hbit, rfl, hc1, hm⟩)
  · have HR := Lib.hid (And.intro hr hm)
    have her' := Lib.hid her
    clear hr hm c0
    go_wp2_with fail
    go_ret2
    exact .inl ⟨HR.out.1, er, her'.out, rfl, HR.out.2⟩
  · have hb1 := HH.out.1.keep hm (fun e => hgb e.symm)
    have k0 : w1.cell? ⟨gb, i, none⟩ = some (.int .u16 (p : Int)) := (hb1.cell i).trans HH.out.2.1
    have f0 := hb1.frozen i
    have hl := hb1.lt
    have hok := cget_ok hr
    have HR := Lib.hid (And.intro hr (And.intro hc1 (And.intro hm hb1)))
    clear hr hc1 hm hb1 c0
    go_wp2_with fail
    refine (cNext _ p bit hbit hok).mono ?_
    rintro e w2 ⟨rfl, rfl⟩
    clear hok
    go_wp2_with fail
    go_ret2
    obtain ⟨hr, hc1, hm, hb1⟩ := HR.out
    refine .inr ⟨bit, code1, rest1, wide1, hr, hbit, rfl, hc1.mod (S := (· = gb)) ((Mod.refl (· = gb) _).setCell (.inl rfl) _) hgb (fun j hj e => hPb (e ▸ hj)), hb1.set_ i _, ?_⟩
    exact (hm.mono (fun _ h => .inl h)).setCell (.inl (.inr rfl)) _

def u16s (l : List Nat) : List Value := l.map fun x => .int .u16 ((x : Nat) : Int)
/-- What is read: the chances of a book, what is left of the code, the coder's rest and range. -/
structure St where
  ch : List Nat
  code : List UInt8
  rest : Nat
  wide : Nat
def SAt (w : World) (bk g : Nat) (P : Nat → Prop) (s : St) : Prop := Blk w bk 150 (u16s s.ch).toArray ∧ s.ch.length = 592 ∧ CodeAt w g P s.code s.rest s.wide
theorem SAt.mod {w w' : World} {S P : Nat → Prop} {bk g : Nat} {s : St} (h : SAt w bk g P s) (hm : Mod S w w') (hb : ¬ S bk) (hg : ¬ S g) (hP : ∀ j, P j → ¬ S j) : SAt w' bk g P s := ⟨h.1.keep hm hb, h.2.1, h.2.2.mod hm hg hP⟩
/-- A bit by the chance at a place of the book. -/
def sget (s : St) (i : Nat) : Option (Nat × St) := (cget s.code s.rest s.wide (s.ch.getD i 0)).map fun x => (x.1, ⟨s.ch.set i (cnext (s.ch.getD i 0) x.1), x.2.1, x.2.2.1, x.2.2.2⟩)
/-- A bit by the even chance. -/
def seven (s : St) : Option (Nat × St) := (cget s.code s.rest s.wide 1024).map fun x => (x.1, ⟨s.ch, x.2.1, x.2.2.1, x.2.2.2⟩)
def SPost (w : World) (bk g : Nat) (P : Nat → Prop) (r : Option (Nat × St)) (e : Ending) (w' : World) : Prop :=
  (r = none ∧ ∃ er : Int, (er == 0) = false ∧ e = .returned (.tuple #[.int .i64 0, .int .i64 er]) ∧ Mod (fun j => j = g ∨ j = bk) w w') ∨
  ∃ v s', r = some (v, s') ∧ e = .returned (.tuple #[.int .i64 ((v : Nat) : Int), .int .i64 0]) ∧ SAt w' bk g P s' ∧ Mod (fun j => j = g ∨ j = bk) w w'
theorem sget_bit {s : St} {i v : Nat} {s' : St} (h : sget s i = some (v, s')) : v ≤ 1 := by
  unfold sget cget at h
  split at h
  · split at h <;> (simp only [Option.map_map, Option.map_eq_some_iff] at h; obtain ⟨a, _, ha⟩ := h; simp at ha; omega)
  · cases h
theorem seven_bit {s : St} {v : Nat} {s' : St} (h : seven s = some (v, s')) : v ≤ 1 := by
  unfold seven cget at h
  split at h
  · split at h <;> (simp only [Option.map_map, Option.map_eq_some_iff] at h; obtain ⟨a, _, ha⟩ := h; simp at ha; omega)
  · cases h
theorem bGet_at (w : World) (bk g : Nat) (P : Nat → Prop) (hPg : ¬ P g) (hPb : ¬ P bk) (hgb : g ≠ bk) (s : St) (i : Nat) (hi : i < 592) (h : SAt w bk g P s) :
    Calls Tryz.prog 265 #[.pointer (some ⟨g, 0, none⟩), .pointer (some ⟨bk, i, none⟩)] w (SPost w bk g P (sget s i)) := by
  obtain ⟨hb, hl, hc⟩ := h
  have hx : (u16s s.ch).toArray[i]? = some (.int .u16 ((s.ch.getD i 0 : Nat) : Int)) := by simp [u16s, List.getD_eq_getElem?_getD, hl, hi]
  refine (bGet w g bk P hPg hPb hgb _ _ i _ _ _ _ hc hb hx).mono ?_
  rintro e w1 (⟨hr, er, her, rfl, hm⟩ | ⟨bit, code1, rest1, wide1, hr, hbit, rfl, hc1, hb1, hm⟩)
  · exact .inl ⟨by unfold sget; rw [hr]; rfl, er, her, rfl, hm.mono (fun _ h => h.elim)⟩
  · refine .inr ⟨bit, ⟨s.ch.set i (cnext (s.ch.getD i 0) bit), code1, rest1, wide1⟩, by unfold sget; rw [hr]; rfl, rfl, ⟨?_, by simp [hl], hc1⟩, hm⟩
    have e1 : ((u16s s.ch).toArray.setIfInBounds i (.int .u16 ((cnext (s.ch.getD i 0) bit : Nat) : Int))) = (u16s (s.ch.set i (cnext (s.ch.getD i 0) bit))).toArray := by simp [u16s, List.map_set]
    rwa [e1] at hb1
theorem bGet_even (w : World) (bk g : Nat) (P : Nat → Prop) (hPg : ¬ P g) (s : St) (ge : Nat) (hPe : ¬ P ge) (hge : g ≠ ge) (hbe : bk ≠ ge) (h : SAt w bk g P s) (he : Blk w ge 143 #[.int .u16 1024]) :
    Calls Tryz.prog 265 #[.pointer (some ⟨g, 0, none⟩), .pointer (some ⟨ge, 0, none⟩)] w fun e w' => (seven s = none ∧ ∃ er : Int, (er == 0) = false ∧ e = .returned (.tuple #[.int .i64 0, .int .i64 er]) ∧ Mod (fun j => j = g ∨ j = ge) w w') ∨
  ∃ v s', seven s = some (v, s') ∧ e = .returned (.tuple #[.int .i64 ((v : Nat) : Int), .int .i64 0]) ∧ SAt w' bk g P s' ∧ Mod (fun j => j = g ∨ j = ge) w w' := by
  obtain ⟨hb, hl, hc⟩ := h
  by_cases hgb : g = bk
  · subst hgb
    obtain ⟨A, n, c, hb2, _⟩ := hc
    have := hb2.ne_ hb (by decide)
    exact absurd rfl this
  refine (bGet w g ge P hPg hPe hge _ _ 0 1024 _ _ _ hc he rfl).mono ?_
  rintro e w1 (⟨hr, er, her, rfl, hm⟩ | ⟨bit, code1, rest1, wide1, hr, hbit, rfl, hc1, hb1, hm⟩)
  · exact .inl ⟨by unfold seven; rw [hr]; rfl, er, her, rfl, hm.mono (fun _ h => h.elim)⟩
  · exact .inr ⟨bit, ⟨s.ch, code1, rest1, wide1⟩, by unfold seven; rw [hr]; rfl, rfl, ⟨hb.keep hm (fun h => by rcases h with h | h; exact hgb h.symm; exact hbe h), hl, hc1⟩, hm⟩
end Go.Proofs.YtmkopcojnibhlaaGreatDoor

/-
  book: at, topic, getLow.
-/
namespace Go.Proofs.YtmkopcojnibhlaaGreatDoor
open Go.RowKit

def atIdx (i ahead : Nat) : Nat := 20 + (2 ^ i - 1 + ahead)
set_option maxRecDepth 100000 in
theorem bAt0 (w : World) (bk off : Nat) : Calls Tryz.prog 193 #[.pointer (some ⟨bk, off, none⟩), .int .i64 0, .int .i64 0] w fun e w' => e = .returned (.pointer (some ⟨bk, off + 20, none⟩)) ∧ Mod (fun _ => False) w w' := by
  go_enter Tryz.func193, Tryz.ntmps193
  go_wp2_with fail
  go_quiet (fail)
  go_wp2_with fail
  go_ret
  exact ⟨rfl, (Mod.refl _ _).drewN _⟩
set_option maxRecDepth 100000 in
theorem bAt1 (w : World) (bk off ahead : Nat) (ha : ahead < 2) : Calls Tryz.prog 193 #[.pointer (some ⟨bk, off, none⟩), .int .i64 1, .int .i64 (ahead : Int)] w fun e w' => e = .returned (.pointer (some ⟨bk, off + 20 + (1 + ahead), none⟩)) ∧ Mod (fun _ => False) w w' := by
  have p0 : (0 : Int) ≤ (ahead : Int) := by omega
  have p1 : (ahead : Int) < 2 := by omega
  go_enter Tryz.func193, Tryz.ntmps193
  go_wp2_with fail
  have s1 : IntKind.i64.wrap (1 + (ahead : Int)) = 1 + (ahead : Int) := IntWalk.i64_in _ ⟨by omega, by omega⟩
  have s2 : (1 + (ahead : Int)).toNat = 1 + ahead := by omega
  have s3 : (0 : Int) ≤ 1 + (ahead : Int) := by omega
  have s4 : 1 + (ahead : Int) < 16 := by omega
  go_quiet (fail)
  go_wp2_with fail
  go_ret
  exact ⟨rfl, (Mod.refl _ _).drewN _⟩
set_option maxRecDepth 100000 in
theorem bAt2 (w : World) (bk off ahead : Nat) (ha : ahead < 4) : Calls Tryz.prog 193 #[.pointer (some ⟨bk, off, none⟩), .int .i64 2, .int .i64 (ahead : Int)] w fun e w' => e = .returned (.pointer (some ⟨bk, off + 20 + (3 + ahead), none⟩)) ∧ Mod (fun _ => False) w w' := by
  have p0 : (0 : Int) ≤ (ahead : Int) := by omega
  have p1 : (ahead : Int) < 4 := by omega
  go_enter Tryz.func193, Tryz.ntmps193
  go_wp2_with fail
  have s1 : IntKind.i64.wrap (3 + (ahead : Int)) = 3 + (ahead : Int) := IntWalk.i64_in _ ⟨by omega, by omega⟩
  have s2 : (3 + (ahead : Int)).toNat = 3 + ahead := by omega
  have s3 : (0 : Int) ≤ 3 + (ahead : Int) := by omega
  have s4 : 3 + (ahead : Int) < 16 := by omega
  go_quiet (fail)
  go_wp2_with fail
  go_ret
  exact ⟨rfl, (Mod.refl _ _).drewN _⟩
set_option maxRecDepth 100000 in
theorem bAt3 (w : World) (bk off ahead : Nat) (ha : ahead < 8) : Calls Tryz.prog 193 #[.pointer (some ⟨bk, off, none⟩), .int .i64 3, .int .i64 (ahead : Int)] w fun e w' => e = .returned (.pointer (some ⟨bk, off + 20 + (7 + ahead), none⟩)) ∧ Mod (fun _ => False) w w' := by
  have p0 : (0 : Int) ≤ (ahead : Int) := by omega
  have p1 : (ahead : Int) < 8 := by omega
  go_enter Tryz.func193, Tryz.ntmps193
  go_wp2_with fail
  have s1 : IntKind.i64.wrap (7 + (ahead : Int)) = 7 + (ahead : Int) := IntWalk.i64_in _ ⟨by omega, by omega⟩
  have s2 : (7 + (ahead : Int)).toNat = 7 + ahead := by omega
  have s3 : (0 : Int) ≤ 7 + (ahead : Int) := by omega
  have s4 : 7 + (ahead : Int) < 16 := by omega
  go_quiet (fail)
  go_wp2_with fail
  go_ret
  exact ⟨rfl, (Mod.refl _ _).drewN _⟩
theorem bAt (w : World) (bk off i ahead : Nat) (hi : i < 4) (ha : ahead < 2 ^ i) : Calls Tryz.prog 193 #[.pointer (some ⟨bk, off, none⟩), .int .i64 (i : Int), .int .i64 (ahead : Int)] w fun e w' => e = .returned (.pointer (some ⟨bk, off + atIdx i ahead, none⟩)) ∧ Mod (fun _ => False) w w' := by
  unfold atIdx
  have h4 : i = 0 ∨ i = 1 ∨ i = 2 ∨ i = 3 := by omega
  rcases h4 with rfl | rfl | rfl | rfl
  · obtain rfl : ahead = 0 := by omega
    exact bAt0 w bk off
  · have := bAt1 w bk off ahead (by simpa using ha)
    rw [Nat.add_assoc] at this
    exact this
  · have := bAt2 w bk off ahead (by simpa using ha)
    rw [Nat.add_assoc] at this
    exact this
  · have := bAt3 w bk off ahead (by simpa using ha)
    rw [Nat.add_assoc] at this
    exact this
set_option maxRecDepth 100000 in
theorem bTopic (w : World) (bk t : Nat) (ht : t < 16) : Calls Tryz.prog 136 #[.pointer (some ⟨bk, 0, none⟩), .int .i64 (t : Int)] w fun e w' => e = .returned (.pointer (some ⟨bk, t * 37, none⟩)) ∧ w = w' := by
  have p0 : decide ((t : Int) < 0) = false := decide_eq_false (by omega)
  have p1 : decide (16 ≤ (t : Int)) = false := decide_eq_false (by omega)
  have p2 : (t : Int) < 16 := by omega
  have p3 : (0 : Int) ≤ (t : Int) := by omega
  go_enter Tryz.func136, Tryz.ntmps136
  go_wp2_with fail
  go_ret
  exact ⟨rfl, rfl⟩

/-- The i-th of the low bits behind a number. -/
def slow (s : St) (t i ahead : Nat) : Option (Nat × St) := if i < 4 then sget s (t * 37 + atIdx i ahead) else seven s
def glow (t : Nat) : Nat → Nat → Nat → St → Option (Nat × St)
  | 0, _, ahead, s => some (ahead, s)
  | m + 1, i, ahead, s => (slow s t i ahead).bind fun x => glow t m (i + 1) (2 * ahead + x.1) x.2
theorem slow_bit {s s' : St} {t i ahead v : Nat} (h : slow s t i ahead = some (v, s')) : v ≤ 1 := by
  unfold slow at h
  split at h
  · exact sget_bit h
  · exact seven_bit h
theorem glow_lt (t : Nat) (m : Nat) : ∀ (i ahead : Nat) (s : St) (v : Nat) (s' : St), ahead < 2 ^ i → glow t m i ahead s = some (v, s') → v < 2 ^ (i + m) := by
  induction m with
  | zero => intro i ahead s v s' ha h; simp [glow] at h; obtain ⟨rfl, _⟩ := h; exact ha
  | succ m ih =>
    intro i ahead s v s' ha h
    simp only [glow, Option.bind_eq_some_iff] at h
    obtain ⟨⟨b, s1⟩, h1, h2⟩ := h
    have := slow_bit h1
    have := ih (i + 1) (2 * ahead + b) s1 v s' (by rw [Nat.pow_succ]; omega) h2
    rwa [show i + 1 + m = i + (m + 1) by omega] at this
end Go.Proofs.YtmkopcojnibhlaaGreatDoor

/-
  book: getLow.
-/
namespace Go.Proofs.YtmkopcojnibhlaaGreatDoor
open Go.RowKit

theorem or64 (r x : Nat) (hr : r < 1099511627776) (hx : x ≤ 1) : bits BinOp.or IntKind.i64 ((r : Int) * 2) (x : Int) = ((2 * r + x : Nat) : Int) := by
  have e1 : (BitVec.ofInt 64 ((r : Int) * 2)).toNat = r * 2 := by rw [BitVec.toNat_ofInt]; omega
  have e2 : (BitVec.ofInt 64 (x : Int)).toNat = x := by rw [BitVec.toNat_ofInt]; omega
  have key : (BitVec.ofInt 64 ((r : Int) * 2) ||| BitVec.ofInt 64 (x : Int)).toNat = 2 * r + x := by
    rw [BitVec.toNat_or, e1, e2]
    have := Nat.shiftLeft_add_eq_or_of_lt (i := 1) (b := x) (by omega) r
    rw [Nat.shiftLeft_eq] at this
    have h2 : r * 2 + x = r * 2 ||| x := this
    omega
  show IntKind.i64.wrap ((BitVec.ofInt 64 ((r : Int) * 2) ||| BitVec.ofInt 64 (x : Int)).toNat : Nat) = _
  rw [key]
  exact IntWalk.i64_in _ ⟨by omega, by omega⟩

def LowRel (w : World) (bk g : Nat) (P : Nat → Prop) (t n : Nat) (r : Option (Nat × St)) (v8 v15 : Value) (wr : World) : Prop :=
  ∃ (i ahead : Nat) (s : St), i ≤ n ∧ ahead < 2 ^ i ∧ v8 = .int .i64 (ahead : Int) ∧ v15 = .int .i64 (i : Int) ∧ SAt wr bk g P s ∧ glow t (n - i) i ahead s = r ∧ Mod (fun j => j = g ∨ j = bk) w wr

set_option maxRecDepth 100000 in
set_option maxHeartbeats 4000000 in
theorem bGetLow (w : World) (bk g : Nat) (P : Nat → Prop) (hPg : ¬ P g) (hPb : ¬ P bk) (hPw : ∀ j, P j → j < w.heap.size) (hgb : g ≠ bk) (s : St) (t n : Nat) (ht : t < 16) (hn : n ≤ 20) (h : SAt w bk g P s) :
    Calls Tryz.prog 232 #[.pointer (some ⟨bk, t * 37, none⟩), .pointer (some ⟨g, 0, none⟩), .int .i64 (n : Int)] w (SPost w bk g P (glow t n 0 0 s)) := by
  have hbw : bk < w.heap.size := h.1.lt
  have hgw : g < w.heap.size := by obtain ⟨_, _, _, hb, _⟩ := h.2.2; exact hb.lt
  obtain ⟨tg, htg⟩ : ∃ tg, tg = glow t n 0 0 s := ⟨_, rfl⟩
  rw [← htg]
  have HH := Lib.hid (And.intro h (And.intro hPw htg))
  clear h hPw htg
  go_enter Tryz.func232, Tryz.ntmps232
  go_wp2_with fail
  go_loopw [8, 15] (LowRel w bk g P t n tg) (fun _ i _ => n - (intOf i).toNat)
  case atStart => exact ⟨0, 0, s, by omega, by simp, rfl, rfl, HH.out.1, HH.out.2.2.symm, Mod.refl _ _⟩
  case round =>
    obtain ⟨i, ahead, s1, hi, ha, rfl, rfl, hs, hg, hM⟩ := hrel
    have ha20 : ahead < 1048576 := Nat.lt_of_lt_of_le ha (Nat.pow_le_pow_right (n := 2) (by omega) (show i ≤ 20 by omega))
    by_cases hlt : i < n
    · have hsz := hM.size
      have ms : Mod (fun j => j = wr.heap.size) wr (wr.alloc (.cells #[.int .u16 1024] 143)) := (Mod.refl _ _).alloc _
      have hs2 : SAt (wr.alloc (.cells #[.int .u16 1024] 143)) bk g P s1 := hs.mod ms (by omega) (by omega) (fun j hj e => by have := HH.out.2.1 j hj; omega)
      have hbe : Blk (wr.alloc (.cells #[.int .u16 1024] 143)) wr.heap.size 143 #[.int .u16 1024] := Blk.new _ _ _
      have hM2 := hM.alloc (.cells #[.int .u16 1024] 143)
      have hge : glow t (n - i) i ahead s1 = (slow s1 t i ahead).bind fun x => glow t (n - (i + 1)) (i + 1) (2 * ahead + x.1) x.2 := by
        rw [show n - i = (n - (i + 1)) + 1 by omega]; rfl
      rw [hg] at hge
      have HB := Lib.hid (And.intro hs2 (And.intro hbe (And.intro hM2 (And.intro hge ha))))
      clear hs2 hbe hM2 hge hs hg hM ms
      by_cases h4 : i < 4
      · have d4 : decide ((i : Int) < 4) = true := decide_eq_true (by omega)
        have hia : t * 37 + atIdx i ahead < 592 := by
          have : ahead < 2 ^ i := ha
          have h3 : 2 ^ i ≤ 8 := Nat.pow_le_pow_right (n := 2) (j := 3) (by omega) (by omega)
          unfold atIdx
          omega
        have HA := Lib.hid (And.intro ha hia)
        clear ha hia
        go_wp2_with fail
        refine (bAt _ bk (t * 37) i ahead h4 HA.out.1).mono ?_
        rintro e w2 ⟨rfl, hm2⟩
        have G2 := bGet_at w2 bk g P hPg hPb hgb s1 (t * 37 + atIdx i ahead) HA.out.2 (HB.out.1.mod hm2 (fun h => h) (fun h => h) (fun _ _ h => h))
        have HM2 := Lib.hid (HB.out.2.2.1.trans (hm2.mono (fun _ h => h.elim)))
        clear hm2
        go_wp2_with fail
        refine G2.mono ?_
        clear G2
        rintro e w3 (⟨hr, er, her, rfl, hm3⟩ | ⟨v, s3, hr, rfl, hs3, hm3⟩)
        · have her2 : (er != 0) = true := by simp [bne, her]
          have HR : Hid (tg = none) := by show _ = _; rw [HB.out.2.2.2.1, show slow s1 t i ahead = none by unfold slow; rw [if_pos h4, hr]]; rfl
          have HM3 := Lib.hid (HM2.out.trans hm3)
          have HE := Lib.hid her
          clear hr hm3 her
          go_wp2_with fail
          go_ret2
          exact .inl ⟨HR.out, er, HE.out, rfl, HM3.out⟩
        · have hv := sget_bit hr
          have HR : Hid (tg = glow t (n - (i + 1)) (i + 1) (2 * ahead + v) s3) := by show _ = _; rw [HB.out.2.2.2.1, show slow s1 t i ahead = some (v, s3) by unfold slow; rw [if_pos h4, hr]]; rfl
          have HM3 := Lib.hid (And.intro (HM2.out.trans hm3) hs3)
          have HO := Lib.hid (or64 ahead v (by omega) hv)
          clear hr hm3 hs3
          go_wp2_with fail
          go_roundw
          case rel =>
            refine ⟨i + 1, 2 * ahead + v, s3, by omega, by have := HA.out.1; rw [Nat.pow_succ]; omega, ?_, by go_num, HM3.out.2, HR.out.symm, HM3.out.1⟩
            rw [HO.out]
          case measure => simp [intOf]; omega
      · have d4 : decide ((i : Int) < 4) = false := decide_eq_false (by omega)
        have hPe : ¬ P wr.heap.size := fun hp => by have := HH.out.2.1 _ hp; omega
        have G2 := bGet_even (wr.alloc (.cells #[.int .u16 1024] 143)) bk g P hPg s1 wr.heap.size hPe (by omega) (by omega) HB.out.1 HB.out.2.1
        have HA := Lib.hid ha
        clear ha
        go_wp2_with fail
        refine G2.mono ?_
        clear G2
        rintro e w3 (⟨hr, er, her, rfl, hm3⟩ | ⟨v, s3, hr, rfl, hs3, hm3⟩)
        · have her2 : (er != 0) = true := by simp [bne, her]
          have HR : Hid (tg = none) := by show _ = _; rw [HB.out.2.2.2.1, show slow s1 t i ahead = none by unfold slow; rw [if_neg h4, hr]]; rfl
          have HM3 := Lib.hid (HB.out.2.2.1.into hm3 (fun j e => by rcases e with e | e; exact .inl (.inl e); exact .inr (by omega)))
          have HE := Lib.hid her
          clear hr hm3 her
          go_wp2_with fail
          go_ret2
          exact .inl ⟨HR.out, er, HE.out, rfl, HM3.out⟩
        · have hv := seven_bit hr
          have HR : Hid (tg = glow t (n - (i + 1)) (i + 1) (2 * ahead + v) s3) := by show _ = _; rw [HB.out.2.2.2.1, show slow s1 t i ahead = some (v, s3) by unfold slow; rw [if_neg h4, hr]]; rfl
          have HM3 := Lib.hid (And.intro (HB.out.2.2.1.into hm3 (fun j e => by rcases e with e | e; exact .inl (.inl e); exact .inr (by omega))) hs3)
          have HO := Lib.hid (or64 ahead v (by omega) hv)
          clear hr hm3 hs3
          go_wp2_with fail
          go_roundw
          case rel =>
            refine ⟨i + 1, 2 * ahead + v, s3, by omega, by have := HA.out; rw [Nat.pow_succ]; omega, ?_, by go_num, HM3.out.2, HR.out.symm, HM3.out.1⟩
            rw [HO.out]
          case measure => simp [intOf]; omega
    · obtain rfl : i = n := by omega
      have HG := Lib.hid (And.intro hs (And.intro hg hM))
      clear hs hg hM ha
      go_wp2_with fail
      go_ret2
      obtain ⟨hs, hg, hM⟩ := HG.out
      rw [Nat.sub_self] at hg
      exact .inr ⟨ahead, s1, hg.symm, rfl, hs, hM⟩
end Go.Proofs.YtmkopcojnibhlaaGreatDoor
