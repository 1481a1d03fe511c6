/-
  Manifests in plain Lean: what is right, a text, what a text reads as; a right manifest's text reads as it. No program in sight.
-/
import Derived.Lib.ItoaNum
import Derived.Lib.AtoiAll
namespace Go.Proofs.YtkobngipbhjfjaaDoor

abbrev Str := List UInt8
structure Pc where
  fr : Int
  sz : Int
  path : Str
  deriving DecidableEq
structure Ls where
  name : Str
  w : Int
  h : Int
  bw : Int
  init : Pc
  pieces : List Pc
  deriving DecidableEq
structure Mf where
  scale : Int
  tick : Int
  rends : List Ls
  deriving DecidableEq

def letterB (c : UInt8) : Bool := decide (97 ≤ c.toNat ∧ c.toNat ≤ 122) || decide (48 ≤ c.toNat ∧ c.toNat ≤ 57)
def nameB (s : Str) : Bool := decide (1 ≤ s.length ∧ s.length ≤ 8) && s.all letterB
def pathB (s : Str) : Bool := decide (1 ≤ s.length ∧ s.length ≤ 60) && s.all (fun c => letterB c || c == 46 || c == 47)
def sideB (n : Int) : Bool := decide (16 ≤ n ∧ n ≤ 4096 ∧ n.tmod 16 = 0)
def pieceB (a b : Int) (p : Pc) : Bool := decide (a ≤ p.fr ∧ p.fr ≤ b ∧ 1 ≤ p.sz ∧ p.sz ≤ 1048576) && pathB p.path
def framesL (l : List Pc) : Int := (l.map Pc.fr).sum
def listedB (l : Ls) : Bool := nameB l.name && sideB l.w && sideB l.h && decide (1 ≤ l.bw ∧ l.bw ≤ 1099511627776) && pieceB 0 0 l.init && l.pieces.all (pieceB 1 64) && decide (1 ≤ l.pieces.length ∧ framesL l.pieces ≤ 1024)
def pathsL (m : Mf) : List Str := m.rends.flatMap fun l => l.init.path :: l.pieces.map Pc.path
def rightB (m : Mf) : Bool := decide (1 ≤ m.scale ∧ m.scale ≤ 1048576 ∧ 1 ≤ m.tick ∧ m.tick ≤ 1048576 ∧ 1 ≤ m.rends.length ∧ m.rends.length ≤ 8) && m.rends.all listedB && decide (m.rends.map Ls.name).Nodup && decide (pathsL m).Nodup

/-! ### The text -/
def kKinora : Str := [107, 105, 110, 111, 114, 97]
def kOne : Str := [49]
def kScale : Str := [115, 99, 97, 108, 101]
def kTick : Str := [116, 105, 99, 107]
def kRend : Str := [114, 101, 110, 100, 105, 116, 105, 111, 110]
def kInit : Str := [105, 110, 105, 116]
def kPiece : Str := [112, 105, 101, 99, 101]
def kEnd : Str := [101, 110, 100]
def dec (n : Int) : Str := Lib.decDigits n.toNat
/-- Fields with blanks between. -/
def joinSp : List Str → Str
  | [] => []
  | [f] => f
  | f :: g :: r => f ++ 32 :: joinSp (g :: r)
def lineL (fs : List Str) : Str := joinSp fs ++ [10]
def linesP (p : Pc) : List Str := [kPiece, dec p.fr, dec p.sz, p.path]
def linesR (l : Ls) : List (List Str) := [kRend, l.name, dec l.w, dec l.h, dec l.bw] :: [kInit, dec l.init.sz, l.init.path] :: l.pieces.map linesP
def linesM (m : Mf) : List (List Str) := [kKinora, kOne] :: [kScale, dec m.scale, kTick, dec m.tick] :: (m.rends.flatMap linesR ++ [[kEnd]])
def writeL (m : Mf) : Str := (linesM m).flatMap lineL

/-! ### What a text reads as -/
def cutL (c : UInt8) : Str → List Str
  | [] => [[]]
  | b :: r => if b = c then [] :: cutL c r else match cutL c r with
    | [] => [[b]]
    | p :: ps => (b :: p) :: ps
def onLast (f : Ls → Ls) : List Ls → List Ls
  | [] => []
  | [l] => [f l]
  | l :: k :: r => l :: onLast f (k :: r)
/-- One line's fields taken in. -/
def stepO (num : Str → Option Int) (f : List Str) (m : Mf) : Option Mf :=
  if f.head? = some kScale ∧ f.length = 4 then (num (f.getD 1 [])).bind fun a => (num (f.getD 3 [])).map fun b => { m with scale := a, tick := b }
  else if f.head? = some kRend ∧ f.length = 5 then (num (f.getD 2 [])).bind fun a => (num (f.getD 3 [])).bind fun b => (num (f.getD 4 [])).map fun c => { m with rends := m.rends ++ [⟨f.getD 1 [], a, b, c, ⟨0, 0, []⟩, []⟩] }
  else if f.head? = some kInit ∧ f.length = 3 ∧ m.rends ≠ [] then (num (f.getD 1 [])).map fun a => { m with rends := onLast (fun l => { l with init := ⟨0, a, f.getD 2 []⟩ }) m.rends }
  else if f.head? = some kPiece ∧ f.length = 4 ∧ m.rends ≠ [] then (num (f.getD 1 [])).bind fun a => (num (f.getD 2 [])).map fun b => { m with rends := onLast (fun l => { l with pieces := l.pieces ++ [⟨a, b, f.getD 3 []⟩] }) m.rends }
  else some m
def foldO (num : Str → Option Int) : List Str → Mf → Option Mf
  | [], m => some m
  | l :: r, m => (stepO num (cutL 32 l) m).bind (foldO num r)
def m0 : Mf := ⟨0, 0, []⟩
def parseO (num : Str → Option Int) (s : Str) : Option Mf := (foldO num (cutL 10 s) m0).bind fun m => if rightB m = true ∧ writeL m = s then some m else none

/-! ### There and back -/
def Spells (num : Str → Option Int) : Prop := ∀ n : Nat, n < 1000000000000000 → num (Lib.decDigits n) = some (n : Int)

theorem cutL_ne (c : UInt8) : ∀ s, cutL c s ≠ []
  | [] => by simp [cutL]
  | b :: r => by
    unfold cutL
    split
    · simp
    · split <;> simp
theorem cutL_none {c : UInt8} : ∀ {s : Str}, c ∉ s → cutL c s = [s]
  | [], _ => rfl
  | b :: r, h => by
    simp only [List.mem_cons, not_or] at h
    rw [cutL, if_neg (Ne.symm h.1), cutL_none h.2]
theorem cutL_app {c : UInt8} : ∀ {s : Str} (t : Str), c ∉ s → cutL c (s ++ c :: t) = s :: cutL c t
  | [], t, _ => by simp [cutL]
  | b :: r, t, h => by
    simp only [List.mem_cons, not_or] at h
    rw [List.cons_append, cutL, if_neg (Ne.symm h.1), cutL_app t h.2]
theorem cutL_lines {ls : List (List Str)} (h : ∀ fs ∈ ls, (10 : UInt8) ∉ joinSp fs) : cutL 10 (ls.flatMap lineL) = ls.map joinSp ++ [[]] := by
  induction ls with
  | nil => rfl
  | cons fs r ih =>
    rw [List.flatMap_cons, lineL, List.append_assoc, List.singleton_append, cutL_app _ (h fs (by simp)), ih (fun x hx => h x (by simp [hx]))]
    simp
theorem cutL_join : ∀ {fs : List Str}, fs ≠ [] → (∀ f ∈ fs, (32 : UInt8) ∉ f) → cutL 32 (joinSp fs) = fs
  | [], h, _ => absurd rfl h
  | [f], _, h => cutL_none (h f (by simp))
  | f :: g :: r, _, h => by
    rw [joinSp, cutL_app _ (h f (by simp)), cutL_join (by simp) (fun x hx => h x (by simp [hx]))]
theorem mem_join {c : UInt8} (hc : c ≠ 32) : ∀ {fs : List Str}, c ∈ joinSp fs → ∃ f ∈ fs, c ∈ f
  | [], h => by cases h
  | [f], h => ⟨f, by simp, h⟩
  | f :: g :: r, h => by
    rw [joinSp, List.mem_append, List.mem_cons] at h
    rcases h with h | h | h
    · exact ⟨f, by simp, h⟩
    · exact absurd h hc
    · obtain ⟨x, hx, hm⟩ := mem_join hc h
      exact ⟨x, by simp [hx], hm⟩
theorem decDigits_mem : ∀ (n : Nat) (c : UInt8), c ∈ Lib.decDigits n → 48 ≤ c.toNat ∧ c.toNat ≤ 57 := by
  intro n
  induction n using Nat.strongRecOn with
  | _ n ih =>
    intro c h
    rw [Lib.decDigits] at h
    split at h
    · rename_i h10
      simp only [List.mem_singleton] at h
      subst h
      rw [UInt8.toNat_ofNat']
      omega
    · rename_i h10
      rw [List.mem_append] at h
      rcases h with h | h
      · exact ih (n / 10) (by omega) c h
      · simp only [List.mem_singleton] at h
        subst h
        rw [UInt8.toNat_ofNat']
        omega
/-- A field: no blank, no line's end. -/
def Fld (f : Str) : Prop := (32 : UInt8) ∉ f ∧ (10 : UInt8) ∉ f
theorem fld_dec (n : Int) : Fld (dec n) := ⟨fun h => by have := decDigits_mem _ _ h; simp at this, fun h => by have := decDigits_mem _ _ h; simp at this⟩
theorem fld_name {s : Str} (h : nameB s = true) : Fld s := by
  unfold nameB at h
  simp only [Bool.and_eq_true, List.all_eq_true] at h
  exact ⟨fun hm => by have := h.2 _ hm; revert this; decide, fun hm => by have := h.2 _ hm; revert this; decide⟩
theorem fld_path {s : Str} (h : pathB s = true) : Fld s := by
  unfold pathB at h
  simp only [Bool.and_eq_true, List.all_eq_true] at h
  exact ⟨fun hm => by have := h.2 _ hm; revert this; decide, fun hm => by have := h.2 _ hm; revert this; decide⟩
theorem lines_fld {m : Mf} (h : rightB m = true) : ∀ fs ∈ linesM m, fs ≠ [] ∧ ∀ f ∈ fs, Fld f := by
  unfold rightB at h
  simp only [Bool.and_eq_true, List.all_eq_true] at h
  have hl := h.1.1.2
  have c1 : Fld kKinora ∧ Fld kOne ∧ Fld kScale ∧ Fld kTick ∧ Fld kRend ∧ Fld kInit ∧ Fld kPiece ∧ Fld kEnd := by unfold Fld; decide
  obtain ⟨c1, c2, c3, c4, c5, c6, c7, c8⟩ := c1
  intro fs hfs
  unfold linesM at hfs
  simp only [List.mem_cons, List.mem_append, List.mem_flatMap, List.not_mem_nil, or_false] at hfs
  rcases hfs with rfl | rfl | ⟨l, hlm, hfs⟩ | rfl
  · simp [c1, c2]
  · simp [c3, c4, fld_dec]
  · have hL := hl l hlm
    unfold listedB at hL
    simp only [Bool.and_eq_true, List.all_eq_true] at hL
    obtain ⟨⟨⟨⟨⟨⟨hn, hw⟩, hh⟩, hb⟩, hi⟩, hp⟩, _⟩ := hL
    unfold linesR at hfs
    simp only [List.mem_cons, List.mem_map] at hfs
    rcases hfs with rfl | rfl | ⟨p, hpm, rfl⟩
    · simp [c5, fld_dec, fld_name hn]
    · unfold pieceB at hi
      simp only [Bool.and_eq_true] at hi
      simp [c6, fld_dec, fld_path hi.2]
    · have h2 := hp p hpm
      unfold pieceB at h2
      simp only [Bool.and_eq_true] at h2
      unfold linesP
      simp [c7, fld_dec, fld_path h2.2]
  · simp [c8]

theorem onLast_app (f : Ls → Ls) : ∀ (l : List Ls) (x : Ls), onLast f (l ++ [x]) = l ++ [f x]
  | [], x => rfl
  | [a], x => rfl
  | a :: b :: r, x => by
    have := onLast_app f (b :: r) x
    simp only [List.cons_append] at this ⊢
    rw [onLast, this]
theorem foldO_app {num : Str → Option Int} : ∀ (a b : List Str) (m : Mf), foldO num (a ++ b) m = (foldO num a m).bind (foldO num b)
  | [], b, m => rfl
  | x :: a, b, m => by
    rw [List.cons_append, foldO, foldO]
    cases stepO num (cutL 32 x) m with
    | none => rfl
    | some m' => exact foldO_app a b m'
theorem num_dec {num : Str → Option Int} (hnum : Spells num) {n : Int} (h0 : 0 ≤ n) (h1 : n < 1000000000000000) : num (dec n) = some n := by
  have := hnum n.toNat (by omega)
  rw [Int.toNat_of_nonneg h0] at this
  exact this

theorem fold_pieces {num : Str → Option Int} (hnum : Spells num) : ∀ (ps : List Pc), (ps.all (pieceB 1 64)) = true → ∀ (s t : Int) (ls : List Ls) (l : Ls), foldO num (ps.map (fun p => joinSp (linesP p))) ⟨s, t, ls ++ [l]⟩ = some ⟨s, t, ls ++ [{ l with pieces := l.pieces ++ ps }]⟩
  | [], _, s, t, ls, l => by simp [foldO]
  | p :: ps, hp, s, t, ls, l => by
    rw [List.all_cons, Bool.and_eq_true] at hp
    have h2 := hp.1
    unfold pieceB at h2
    simp only [Bool.and_eq_true, decide_eq_true_eq] at h2
    have hc : cutL 32 (joinSp (linesP p)) = linesP p := by
      refine cutL_join (by simp [linesP]) ?_
      intro f hf
      simp only [linesP, List.mem_cons, List.not_mem_nil, or_false] at hf
      rcases hf with rfl | rfl | rfl | rfl
      · decide
      · exact (fld_dec _).1
      · exact (fld_dec _).1
      · exact (fld_path h2.2).1
    have hs : stepO num (linesP p) ⟨s, t, ls ++ [l]⟩ = some ⟨s, t, ls ++ [{ l with pieces := l.pieces ++ [p] }]⟩ := by
      unfold stepO linesP
      rw [if_neg (by simp [kPiece, kScale]), if_neg (by simp), if_neg (by simp), if_pos (by simp)]
      simp only [List.getD_cons_succ, List.getD_cons_zero]
      rw [num_dec hnum (by omega) (by omega), num_dec hnum (by omega) (by omega)]
      simp [onLast_app]
    rw [List.map_cons, foldO, hc, hs]
    simp only [Option.bind_some]
    rw [fold_pieces hnum ps hp.2]
    simp
theorem fold_rends {num : Str → Option Int} (hnum : Spells num) : ∀ (rs : List Ls), rs.all listedB = true → ∀ (s t : Int) (ls : List Ls), foldO num ((rs.flatMap linesR).map joinSp) ⟨s, t, ls⟩ = some ⟨s, t, ls ++ rs⟩
  | [], _, s, t, ls => by simp [foldO]
  | l :: rs, hl, s, t, ls => by
    rw [List.all_cons, Bool.and_eq_true] at hl
    have hL := hl.1
    unfold listedB at hL
    simp only [Bool.and_eq_true, decide_eq_true_eq] at hL
    obtain ⟨⟨⟨⟨⟨⟨hn, hw⟩, hh⟩, hb⟩, hi⟩, hp⟩, _⟩ := hL
    unfold sideB at hw hh
    unfold pieceB at hi
    simp only [Bool.and_eq_true, decide_eq_true_eq] at hw hh hi
    rw [List.flatMap_cons, List.map_append, foldO_app]
    have e1 : foldO num ((linesR l).map joinSp) ⟨s, t, ls⟩ = some ⟨s, t, ls ++ [l]⟩ := by
      unfold linesR
      rw [List.map_cons, foldO, cutL_join (by simp) (by
        intro f hf
        simp only [List.mem_cons, List.not_mem_nil, or_false] at hf
        rcases hf with rfl | rfl | rfl | rfl | rfl
        · decide
        · exact (fld_name hn).1
        · exact (fld_dec _).1
        · exact (fld_dec _).1
        · exact (fld_dec _).1)]
      have hs : stepO num [kRend, l.name, dec l.w, dec l.h, dec l.bw] ⟨s, t, ls⟩ = some ⟨s, t, ls ++ [⟨l.name, l.w, l.h, l.bw, ⟨0, 0, []⟩, []⟩]⟩ := by
        unfold stepO
        rw [if_neg (by simp), if_pos (by simp)]
        simp only [List.getD_cons_succ, List.getD_cons_zero]
        rw [num_dec hnum (by omega) (by omega), num_dec hnum (by omega) (by omega), num_dec hnum (by omega) (by omega)]
        simp
      rw [hs]
      simp only [Option.bind_some]
      rw [List.map_cons, foldO, cutL_join (by simp) (by
        intro f hf
        simp only [List.mem_cons, List.not_mem_nil, or_false] at hf
        rcases hf with rfl | rfl | rfl
        · decide
        · exact (fld_dec _).1
        · exact (fld_path hi.2).1)]
      have hs2 : stepO num [kInit, dec l.init.sz, l.init.path] ⟨s, t, ls ++ [⟨l.name, l.w, l.h, l.bw, ⟨0, 0, []⟩, []⟩]⟩ = some ⟨s, t, ls ++ [⟨l.name, l.w, l.h, l.bw, l.init, []⟩]⟩ := by
        unfold stepO
        rw [if_neg (by simp), if_neg (by simp), if_pos (by simp)]
        simp only [List.getD_cons_succ, List.getD_cons_zero]
        rw [num_dec hnum (by omega) (by omega)]
        have : (⟨0, l.init.sz, l.init.path⟩ : Pc) = l.init := by
          have h0 : l.init.fr = 0 := by omega
          cases hq : l.init with
          | mk a b c => rw [hq] at h0; simp at h0; simp [h0]
        simp [onLast_app, this]
      rw [hs2]
      simp only [Option.bind_some, List.map_map]
      have := fold_pieces hnum l.pieces hp s t ls ⟨l.name, l.w, l.h, l.bw, l.init, []⟩
      simp only [List.nil_append] at this
      exact this
    rw [e1]
    simp only [Option.bind_some]
    rw [fold_rends hnum rs hl.2]
    simp
theorem read_write {num : Str → Option Int} (hnum : Spells num) {m : Mf} (h : rightB m = true) : foldO num (cutL 10 (writeL m)) m0 = some m := by
  have hf := lines_fld h
  rw [writeL, cutL_lines (fun fs hfs hm => by
    obtain ⟨f, hfm, hc⟩ := mem_join (by decide) hm
    exact ((hf fs hfs).2 f hfm).2 hc)]
  unfold rightB at h
  simp only [Bool.and_eq_true, decide_eq_true_eq] at h
  have h1 := h.1.1.1
  have h2 := h.1.1.2
  unfold linesM
  rw [List.map_cons, List.map_cons, List.map_append, List.cons_append, List.cons_append, foldO, cutL_join (by simp) (by decide)]
  have s1 : stepO num [kKinora, kOne] m0 = some m0 := by
    unfold stepO
    rw [if_neg (by simp), if_neg (by simp), if_neg (by simp), if_neg (by simp)]
  rw [s1]
  simp only [Option.bind_some]
  rw [foldO, cutL_join (by simp) (by
    intro f hf
    simp only [List.mem_cons, List.not_mem_nil, or_false] at hf
    rcases hf with rfl | rfl | rfl | rfl
    · decide
    · exact (fld_dec _).1
    · decide
    · exact (fld_dec _).1)]
  have s2 : stepO num [kScale, dec m.scale, kTick, dec m.tick] m0 = some ⟨m.scale, m.tick, []⟩ := by
    unfold stepO
    rw [if_pos (by simp)]
    simp only [List.getD_cons_succ, List.getD_cons_zero]
    rw [num_dec hnum (by omega) (by omega), num_dec hnum (by omega) (by omega)]
    simp [m0]
  rw [s2]
  simp only [Option.bind_some]
  rw [foldO_app, foldO_app, fold_rends hnum _ h2]
  simp only [Option.bind_some, List.nil_append, List.map_cons, List.map_nil, foldO]
  rw [show cutL 32 (joinSp [kEnd]) = [kEnd] from by decide]
  have s3 : stepO num [kEnd] (⟨m.scale, m.tick, m.rends⟩ : Mf) = some m := by
    unfold stepO
    rw [if_neg (by simp), if_neg (by simp), if_neg (by simp), if_neg (by simp)]
  rw [s3]
  simp only [Option.bind_some]
  rw [show cutL 32 [] = [[]] from rfl]
  unfold stepO
  rw [if_neg (by simp), if_neg (by simp), if_neg (by simp), if_neg (by simp)]
  rfl
/-- A right manifest's text reads as it. -/
theorem parse_write {num : Str → Option Int} (hnum : Spells num) {m : Mf} (h : rightB m = true) : parseO num (writeL m) = some m := by
  unfold parseO
  rw [read_write hnum h]
  simp [h]
/-- Whatever reads numerals right reads the same manifests. -/
theorem parse_any {num num' : Str → Option Int} (h : Spells num) (h' : Spells num') (s : Str) : parseO num s = parseO num' s := by
  have key : ∀ {num num' : Str → Option Int}, Spells num → Spells num' → ∀ m, parseO num s = some m → parseO num' s = some m := by
    intro num num' h h' m e
    have h0 : parseO num s = some m := e
    unfold parseO at e
    obtain ⟨m', _, e⟩ := Option.bind_eq_some_iff.1 e
    split at e
    · rename_i hr
      injection e with e
      subst e
      have := parse_write h' hr.1
      rw [hr.2] at this
      exact this
    · cases e
  cases e : parseO num s with
  | some m => exact (key h h' m e).symm
  | none =>
    cases e' : parseO num' s with
    | none => rfl
    | some m => rw [key h' h m e'] at e; cases e

/-! ### Numerals -/
theorem parse10_app : ∀ (l : Str) (acc : Nat) (d : UInt8) (n : Nat), Lib.parseUint10 acc l = .ok n → 48 ≤ d.toNat → d.toNat ≤ 57 → n < 1844674407370955161 → Lib.parseUint10 acc (l ++ [d]) = .ok (n * 10 + (d.toNat - 48))
  | [], acc, d, n, h, h0, h1, hn => by
    simp only [Lib.parseUint10] at h
    injection h with h
    subst h
    rw [List.nil_append, Lib.parseUint10, if_pos ⟨h0, h1⟩, if_neg (by omega), if_neg (by omega), Lib.parseUint10]
  | c :: r, acc, d, n, h, h0, h1, hn => by
    rw [List.cons_append]
    rw [Lib.parseUint10] at h ⊢
    split at h
    · rename_i hc
      rw [if_pos hc]
      split at h
      · cases h
      · rename_i h3
        rw [if_neg h3]
        split at h
        · cases h
        · rename_i h4
          rw [if_neg h4]
          exact parse10_app r _ d n h h0 h1 hn
    · cases h
theorem parse10_dec : ∀ (n : Nat), n < 1000000000000000 → Lib.parseUint10 0 (Lib.decDigits n) = .ok n := by
  intro n
  induction n using Nat.strongRecOn with
  | _ n ih =>
    intro hn
    rw [Lib.decDigits]
    split
    · rename_i h10
      rw [Lib.parseUint10, UInt8.toNat_ofNat', if_pos (by omega), if_neg (by omega), if_neg (by omega), Lib.parseUint10]
      congr 1
      omega
    · rename_i h10
      rw [parse10_app _ _ _ _ (ih (n / 10) (by omega) (by omega)) (by rw [UInt8.toNat_ofNat']; omega) (by rw [UInt8.toNat_ofNat']; omega) (by omega), UInt8.toNat_ofNat']
      congr 1
      omega
theorem decDigits_ne (n : Nat) : Lib.decDigits n ≠ [] := by
  rw [Lib.decDigits]
  split
  · simp
  · simp
/-- The number that strconv.Atoi gives, where it succeeds. -/
def numP (s : Str) : Option Int := match Lib.atoiAll s with
  | .ok v => some v
  | _ => none
theorem numP_spells : Spells numP := by
  intro n hn
  have hne := decDigits_ne n
  have hm := decDigits_mem n
  have hp := parse10_dec n hn
  unfold numP Lib.atoiAll
  cases hl : Lib.decDigits n with
  | nil => exact absurd hl hne
  | cons c r =>
    rw [hl] at hm hp
    have hc := hm c (by simp)
    have h2 : Lib.parseMag (if c.toNat = 43 ∨ c.toNat = 45 then r else c :: r) = .ok n := by
      rw [if_neg (by omega)]
      unfold Lib.parseMag
      rw [if_neg (by simp)]
      exact hp
    simp only [h2]
    rw [if_neg (by omega), if_neg (by omega), if_neg (by omega)]
/-- The number that the reference reads: 0, where there are no figures or too many. -/
def numF (i : Nat) (acc : Int) : Str → Int
  | [] => acc
  | c :: r => if c.toNat < 48 ∨ 57 < c.toNat ∨ i = 15 then 0 else numF (i + 1) (10 * acc + ((c.toNat : Int) - 48)) r
def numR (s : Str) : Option Int := some (numF 0 0 s)
theorem numF_app : ∀ (l : Str) (i : Nat) (acc : Int) (d : UInt8), (∀ c ∈ l, 48 ≤ c.toNat ∧ c.toNat ≤ 57) → 48 ≤ d.toNat → d.toNat ≤ 57 → i + l.length < 15 → numF i acc (l ++ [d]) = 10 * numF i acc l + ((d.toNat : Int) - 48)
  | [], i, acc, d, _, h0, h1, hi => by
    simp only [List.length_nil] at hi
    rw [List.nil_append]
    simp only [numF]
    rw [if_neg (by omega)]
  | c :: r, i, acc, d, h, h0, h1, hi => by
    simp only [List.length_cons] at hi
    have hc := h c (by simp)
    rw [List.cons_append, numF, if_neg (by omega), numF, if_neg (by omega)]
    exact numF_app r _ _ d (fun x hx => h x (by simp [hx])) h0 h1 (by omega)
theorem decDigits_len : ∀ (k n : Nat), n < 10 ^ (k + 1) → (Lib.decDigits n).length ≤ k + 1 := by
  intro k
  induction k with
  | zero =>
    intro n h
    rw [Lib.decDigits, dif_pos (by omega)]
    simp
  | succ k ih =>
    intro n h
    rw [Lib.decDigits]
    split
    · simp
    · have := ih (n / 10) (by rw [Nat.pow_succ] at h; omega)
      simp only [List.length_append, List.length_cons, List.length_nil]
      omega
theorem numF_dec : ∀ (n : Nat), n < 1000000000000000 → numF 0 0 (Lib.decDigits n) = (n : Int) := by
  intro n
  induction n using Nat.strongRecOn with
  | _ n ih =>
    intro hn
    have hl := decDigits_len 13 (n / 10) (by omega)
    rw [Lib.decDigits]
    split
    · rename_i h10
      rw [numF, UInt8.toNat_ofNat', if_neg (by omega), numF]
      omega
    · rename_i h10
      rw [numF_app _ _ _ _ (fun c hc => decDigits_mem _ c hc) (by rw [UInt8.toNat_ofNat']; omega) (by rw [UInt8.toNat_ofNat']; omega) (by omega), ih (n / 10) (by omega) (by omega), UInt8.toNat_ofNat']
      omega
theorem numR_spells : Spells numR := fun n hn => by unfold numR; rw [numF_dec n hn]
end Go.Proofs.YtkobngipbhjfjaaDoor
