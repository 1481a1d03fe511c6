/-
  append of one int, or one byte, or of ints that lie elsewhere, onto a row that the call owns.
-/
import Derived.Test.YtkobngipbhjfjaaDoorInts
namespace Go.Proofs.YtkobngipbhjfjaaDoor
open Go.RowKit

theorem wpList_app_int {ops : Array Oper} {rest : List Oper} {o : Oper} {a : Act} {Q : Exit → Act → World → Prop} (w : World) (hgd : o.guard = none) (s x : Operand)
    (ho : o.op = .call { callee := .builtin .append, args := #[s, x], argTypes := #[42, 42] })
    (B : Nat) (v : Value) (l : List Int) (y : Int) (hs : a.eval s = v) (hx : a.eval x = .slice (some ⟨w.heap.size, 0, none⟩) 1 1) (hown : IntsOwn w B v l) (hB : B ≤ w.heap.size) (hl : l.length < 1048576)
    (h : ∀ v' w', IntsOwn w' B v' (l ++ [y]) → Mod (fun j => v.ownBlock = some j) w w' → (∀ (W : World) (S : Nat → Prop), W.heap.size ≤ B → Mod S W w → Mod S W w') → (∀ g, v'.ownBlock = some g → v.ownBlock = some g ∨ w.heap.size ≤ g) → wpList Tryd.prog ops Q rest (a.put o.dst v') w') :
    wpList Tryd.prog ops Q (o :: rest) a (w.alloc (.cells #[.int .i64 y] 3)) := by
  obtain ⟨i0, hi0, hz0, hz1, hz2⟩ := info_parts int_info
  refine wpList_append_src _ hgd s x 42 ho B 3 i0 _ 1 8 Tryd.underlying42 hi0 hz0 hz1 hz2 rfl (by omega) v l.length (i64s l) hs (own_mod hown ((Mod.refl (fun _ => False) w).alloc _) (fun _ _ h => h)) (some ⟨w.heap.size, 0, none⟩) 1 1 [.int .i64 y] hx (Src.new w 3 [.int .i64 y]) (fun h => by cases h) (fun u hu => by rw [List.mem_singleton.1 hu]; rfl) (by unfold maxLen; omega) (by omega) (by simp; omega) ?_
  intro v' w' h1 h2 h3
  have hM : Mod (fun j => v.ownBlock = some j) w w' := ((Mod.refl _ _).alloc _).grown h2 (fun k hk => .inl hk)
  refine h v' w' ?_ hM (fun W S hW hS => hS.into hM (fun i e => .inr (Nat.le_trans hW (hown.lt i e).1))) ?_
  · unfold IntsOwn
    have e1 : (l ++ [y]).length = l.length + 1 := by simp
    have e2 : i64s (l ++ [y]) = i64s l ++ [.int .i64 y] := by simp [i64s]
    rw [e1, e2]
    exact h1
  · intro g hg
    rcases h3 with h3 | h3
    · exact .inl (h3 ▸ hg)
    · rw [h3] at hg
      injection hg with hg
      exact .inr (by simp at hg; omega)

theorem wpList_app_ints {ops : Array Oper} {rest : List Oper} {o : Oper} {a : Act} {Q : Exit → Act → World → Prop} (w : World) (hgd : o.guard = none) (s x : Operand)
    (ho : o.op = .call { callee := .builtin .append, args := #[s, x], argTypes := #[42, 42] })
    (B : Nat) (v : Value) (l : List Int) (A : Option Addr) (m c : Nat) (r : List Int) (hs : a.eval s = v) (hx : a.eval x = .slice A m c) (hown : IntsOwn w B v l) (hin : IntsIn w A m c r) (hB : B ≤ w.heap.size) (hl : l.length + m ≤ 1048576)
    (h : ∀ v' w', IntsOwn w' B v' (l ++ r) → Mod (fun j => v.ownBlock = some j) w w' → (∀ (W : World) (S : Nat → Prop), W.heap.size ≤ B → Mod S W w → Mod S W w') → (∀ g, v'.ownBlock = some g → v.ownBlock = some g ∨ w.heap.size ≤ g) → wpList Tryd.prog ops Q rest (a.put o.dst v') w') :
    wpList Tryd.prog ops Q (o :: rest) a w := by
  obtain ⟨i0, hi0, hz0, hz1, hz2⟩ := info_parts int_info
  refine wpList_append_src _ hgd s x 42 ho B 3 i0 _ 1 8 Tryd.underlying42 hi0 hz0 hz1 hz2 rfl (by omega) v l.length (i64s l) hs hown A m c (i64s r) hx hin.2.2.1 hin.2.1 (i64s_one r) (by unfold maxLen; omega) (by omega) hB ?_
  intro v' w' h1 h2 h3
  have hM : Mod (fun j => v.ownBlock = some j) w w' := (Mod.refl _ _).grown h2 (fun k hk => .inl hk)
  refine h v' w' ?_ hM (fun W S hW hS => hS.into hM (fun i e => .inr (Nat.le_trans hW (hown.lt i e).1))) ?_
  · unfold IntsOwn
    have e1 : (l ++ r).length = l.length + m := by simp [hin.1]
    have e2 : i64s (l ++ r) = i64s l ++ i64s r := by simp [i64s]
    rw [e1, e2]
    exact h1
  · intro g hg
    rcases h3 with h3 | h3
    · exact .inl (h3 ▸ hg)
    · rw [h3] at hg
      injection hg with hg
      exact .inr (by omega)

theorem step_app_int {ops : Array Oper} {o : Oper} {a : Act} {K : Act → World → Prop} {Q : Exit → Act → World → Prop} {E : Prop} (w : World) (hgd : o.guard = none) (s x : Operand)
    (ho : o.op = .call { callee := .builtin .append, args := #[s, x], argTypes := #[42, 42] })
    (B : Nat) (v : Value) (l : List Int) (y : Int) (hs : a.eval s = v) (hx : a.eval x = .slice (some ⟨w.heap.size, 0, none⟩) 1 1) (hown : IntsOwn w B v l) (hB : B ≤ w.heap.size) (hl : l.length < 1048576)
    (h : ∀ v' w', IntsOwn w' B v' (l ++ [y]) → Mod (fun j => v.ownBlock = some j) w w' → (∀ (W : World) (S : Nat → Prop), W.heap.size ≤ B → Mod S W w → Mod S W w') → (∀ g, v'.ownBlock = some g → v.ownBlock = some g ∨ w.heap.size ≤ g) → K (a.put o.dst v') w') :
    if Region.wanted o (yielded ops a.tmps) = true then Oper.wp Tryd.prog o a (w.alloc (.cells #[.int .i64 y] 3)) K Q else E := by
  obtain ⟨i0, hi0, hz0, hz1, hz2⟩ := info_parts int_info
  refine step_append_src _ hgd s x 42 ho B 3 i0 _ 1 8 Tryd.underlying42 hi0 hz0 hz1 hz2 rfl (by omega) v l.length (i64s l) hs (own_mod hown ((Mod.refl (fun _ => False) w).alloc _) (fun _ _ h => h)) (some ⟨w.heap.size, 0, none⟩) 1 1 [.int .i64 y] hx (Src.new w 3 [.int .i64 y]) (fun h => by cases h) (fun u hu => by rw [List.mem_singleton.1 hu]; rfl) (by unfold maxLen; omega) (by omega) (by simp; omega) ?_
  intro v' w' h1 h2 h3
  have hM : Mod (fun j => v.ownBlock = some j) w w' := ((Mod.refl _ _).alloc _).grown h2 (fun k hk => .inl hk)
  refine h v' w' ?_ hM (fun W S hW hS => hS.into hM (fun i e => .inr (Nat.le_trans hW (hown.lt i e).1))) ?_
  · unfold IntsOwn
    have e1 : (l ++ [y]).length = l.length + 1 := by simp
    have e2 : i64s (l ++ [y]) = i64s l ++ [.int .i64 y] := by simp [i64s]
    rw [e1, e2]
    exact h1
  · intro g hg
    rcases h3 with h3 | h3
    · exact .inl (h3 ▸ hg)
    · rw [h3] at hg
      injection hg with hg
      exact .inr (by simp at hg; omega)

theorem step_app_ints {ops : Array Oper} {o : Oper} {a : Act} {K : Act → World → Prop} {Q : Exit → Act → World → Prop} {E : Prop} (w : World) (hgd : o.guard = none) (s x : Operand)
    (ho : o.op = .call { callee := .builtin .append, args := #[s, x], argTypes := #[42, 42] })
    (B : Nat) (v : Value) (l : List Int) (A : Option Addr) (m c : Nat) (r : List Int) (hs : a.eval s = v) (hx : a.eval x = .slice A m c) (hown : IntsOwn w B v l) (hin : IntsIn w A m c r) (hB : B ≤ w.heap.size) (hl : l.length + m ≤ 1048576)
    (h : ∀ v' w', IntsOwn w' B v' (l ++ r) → Mod (fun j => v.ownBlock = some j) w w' → (∀ (W : World) (S : Nat → Prop), W.heap.size ≤ B → Mod S W w → Mod S W w') → (∀ g, v'.ownBlock = some g → v.ownBlock = some g ∨ w.heap.size ≤ g) → K (a.put o.dst v') w') :
    if Region.wanted o (yielded ops a.tmps) = true then Oper.wp Tryd.prog o a w K Q else E := by
  obtain ⟨i0, hi0, hz0, hz1, hz2⟩ := info_parts int_info
  refine step_append_src _ hgd s x 42 ho B 3 i0 _ 1 8 Tryd.underlying42 hi0 hz0 hz1 hz2 rfl (by omega) v l.length (i64s l) hs hown A m c (i64s r) hx hin.2.2.1 hin.2.1 (i64s_one r) (by unfold maxLen; omega) (by omega) hB ?_
  intro v' w' h1 h2 h3
  have hM : Mod (fun j => v.ownBlock = some j) w w' := (Mod.refl _ _).grown h2 (fun k hk => .inl hk)
  refine h v' w' ?_ hM (fun W S hW hS => hS.into hM (fun i e => .inr (Nat.le_trans hW (hown.lt i e).1))) ?_
  · unfold IntsOwn
    have e1 : (l ++ r).length = l.length + m := by simp [hin.1]
    have e2 : i64s (l ++ r) = i64s l ++ i64s r := by simp [i64s]
    rw [e1, e2]
    exact h1
  · intro g hg
    rcases h3 with h3 | h3
    · exact .inl (h3 ▸ hg)
    · rw [h3] at hg
      injection hg with hg
      exact .inr (by omega)

theorem wpList_app_u8 {ops : Array Oper} {rest : List Oper} {o : Oper} {a : Act} {Q : Exit → Act → World → Prop} (w : World) (hgd : o.guard = none) (s x : Operand)
    (ho : o.op = .call { callee := .builtin .append, args := #[s, x], argTypes := #[47, 47] })
    (B : Nat) (v : Value) (l : List UInt8) (y : UInt8) (hs : a.eval s = v) (hx : a.eval x = .slice (some ⟨w.heap.size, 0, none⟩) 1 1) (hown : Bytes w B v l) (hB : B ≤ w.heap.size) (hl : l.length < 1048576)
    (h : ∀ v' w', Bytes w' B v' (l ++ [y]) → Mod (fun j => v.ownBlock = some j) w w' → (∀ (W : World) (S : Nat → Prop), W.heap.size ≤ B → Mod S W w → Mod S W w') → (∀ g, v'.ownBlock = some g → v.ownBlock = some g ∨ w.heap.size ≤ g) → wpList Tryd.prog ops Q rest (a.put o.dst v') w') :
    wpList Tryd.prog ops Q (o :: rest) a (w.alloc (.cells #[.int .u8 (y.toNat : Int)] 5)) := by
  obtain ⟨i0, hi0, hz0, hz1, hz2⟩ := info_parts u8_info
  refine wpList_append_src _ hgd s x 47 ho B 5 i0 _ 1 1 Tryd.underlying47 hi0 hz0 hz1 hz2 rfl (by omega) v l.length (u8s l) hs (own_mod hown ((Mod.refl (fun _ => False) w).alloc _) (fun _ _ h => h)) (some ⟨w.heap.size, 0, none⟩) 1 1 [.int .u8 (y.toNat : Int)] hx (Src.new w 5 [.int .u8 (y.toNat : Int)]) (fun h => by cases h) (fun u hu => by rw [List.mem_singleton.1 hu]; rfl) (by unfold maxLen; omega) (by omega) (by simp; omega) ?_
  intro v' w' h1 h2 h3
  have hM : Mod (fun j => v.ownBlock = some j) w w' := ((Mod.refl _ _).alloc _).grown h2 (fun k hk => .inl hk)
  refine h v' w' ?_ hM (fun W S hW hS => hS.into hM (fun i e => .inr (Nat.le_trans hW (hown.lt i e).1))) ?_
  · unfold Bytes
    have e1 : (l ++ [y]).length = l.length + 1 := by simp
    have e2 : u8s (l ++ [y]) = u8s l ++ [.int .u8 (y.toNat : Int)] := by simp [u8s]
    rw [e1, e2]
    exact h1
  · intro g hg
    rcases h3 with h3 | h3
    · exact .inl (h3 ▸ hg)
    · rw [h3] at hg
      injection hg with hg
      exact .inr (by simp at hg; omega)

theorem wpList_app_u8s {ops : Array Oper} {rest : List Oper} {o : Oper} {a : Act} {Q : Exit → Act → World → Prop} (w : World) (hgd : o.guard = none) (s x : Operand)
    (ho : o.op = .call { callee := .builtin .append, args := #[s, x], argTypes := #[47, 47] })
    (B : Nat) (v : Value) (l : List UInt8) (A : Option Addr) (m c : Nat) (r : List UInt8) (hs : a.eval s = v) (hx : a.eval x = .slice A m c) (hown : Bytes w B v l) (hin : BytesIn w A m c r) (hB : B ≤ w.heap.size) (hl : l.length + m ≤ 1048576)
    (h : ∀ v' w', Bytes w' B v' (l ++ r) → Mod (fun j => v.ownBlock = some j) w w' → (∀ (W : World) (S : Nat → Prop), W.heap.size ≤ B → Mod S W w → Mod S W w') → (∀ g, v'.ownBlock = some g → v.ownBlock = some g ∨ w.heap.size ≤ g) → wpList Tryd.prog ops Q rest (a.put o.dst v') w') :
    wpList Tryd.prog ops Q (o :: rest) a w := by
  obtain ⟨i0, hi0, hz0, hz1, hz2⟩ := info_parts u8_info
  refine wpList_append_src _ hgd s x 47 ho B 5 i0 _ 1 1 Tryd.underlying47 hi0 hz0 hz1 hz2 rfl (by omega) v l.length (u8s l) hs hown A m c (u8s r) hx hin.2.2.1 hin.2.1 (u8s_one r) (by unfold maxLen; omega) (by omega) hB ?_
  intro v' w' h1 h2 h3
  have hM : Mod (fun j => v.ownBlock = some j) w w' := (Mod.refl _ _).grown h2 (fun k hk => .inl hk)
  refine h v' w' ?_ hM (fun W S hW hS => hS.into hM (fun i e => .inr (Nat.le_trans hW (hown.lt i e).1))) ?_
  · unfold Bytes
    have e1 : (l ++ r).length = l.length + m := by simp [hin.1]
    have e2 : u8s (l ++ r) = u8s l ++ u8s r := by simp [u8s]
    rw [e1, e2]
    exact h1
  · intro g hg
    rcases h3 with h3 | h3
    · exact .inl (h3 ▸ hg)
    · rw [h3] at hg
      injection hg with hg
      exact .inr (by omega)

theorem step_app_u8 {ops : Array Oper} {o : Oper} {a : Act} {K : Act → World → Prop} {Q : Exit → Act → World → Prop} {E : Prop} (w : World) (hgd : o.guard = none) (s x : Operand)
    (ho : o.op = .call { callee := .builtin .append, args := #[s, x], argTypes := #[47, 47] })
    (B : Nat) (v : Value) (l : List UInt8) (y : UInt8) (hs : a.eval s = v) (hx : a.eval x = .slice (some ⟨w.heap.size, 0, none⟩) 1 1) (hown : Bytes w B v l) (hB : B ≤ w.heap.size) (hl : l.length < 1048576)
    (h : ∀ v' w', Bytes w' B v' (l ++ [y]) → Mod (fun j => v.ownBlock = some j) w w' → (∀ (W : World) (S : Nat → Prop), W.heap.size ≤ B → Mod S W w → Mod S W w') → (∀ g, v'.ownBlock = some g → v.ownBlock = some g ∨ w.heap.size ≤ g) → K (a.put o.dst v') w') :
    if Region.wanted o (yielded ops a.tmps) = true then Oper.wp Tryd.prog o a (w.alloc (.cells #[.int .u8 (y.toNat : Int)] 5)) K Q else E := by
  obtain ⟨i0, hi0, hz0, hz1, hz2⟩ := info_parts u8_info
  refine step_append_src _ hgd s x 47 ho B 5 i0 _ 1 1 Tryd.underlying47 hi0 hz0 hz1 hz2 rfl (by omega) v l.length (u8s l) hs (own_mod hown ((Mod.refl (fun _ => False) w).alloc _) (fun _ _ h => h)) (some ⟨w.heap.size, 0, none⟩) 1 1 [.int .u8 (y.toNat : Int)] hx (Src.new w 5 [.int .u8 (y.toNat : Int)]) (fun h => by cases h) (fun u hu => by rw [List.mem_singleton.1 hu]; rfl) (by unfold maxLen; omega) (by omega) (by simp; omega) ?_
  intro v' w' h1 h2 h3
  have hM : Mod (fun j => v.ownBlock = some j) w w' := ((Mod.refl _ _).alloc _).grown h2 (fun k hk => .inl hk)
  refine h v' w' ?_ hM (fun W S hW hS => hS.into hM (fun i e => .inr (Nat.le_trans hW (hown.lt i e).1))) ?_
  · unfold Bytes
    have e1 : (l ++ [y]).length = l.length + 1 := by simp
    have e2 : u8s (l ++ [y]) = u8s l ++ [.int .u8 (y.toNat : Int)] := by simp [u8s]
    rw [e1, e2]
    exact h1
  · intro g hg
    rcases h3 with h3 | h3
    · exact .inl (h3 ▸ hg)
    · rw [h3] at hg
      injection hg with hg
      exact .inr (by simp at hg; omega)

theorem step_app_u8s {ops : Array Oper} {o : Oper} {a : Act} {K : Act → World → Prop} {Q : Exit → Act → World → Prop} {E : Prop} (w : World) (hgd : o.guard = none) (s x : Operand)
    (ho : o.op = .call { callee := .builtin .append, args := #[s, x], argTypes := #[47, 47] })
    (B : Nat) (v : Value) (l : List UInt8) (A : Option Addr) (m c : Nat) (r : List UInt8) (hs : a.eval s = v) (hx : a.eval x = .slice A m c) (hown : Bytes w B v l) (hin : BytesIn w A m c r) (hB : B ≤ w.heap.size) (hl : l.length + m ≤ 1048576)
    (h : ∀ v' w', Bytes w' B v' (l ++ r) → Mod (fun j => v.ownBlock = some j) w w' → (∀ (W : World) (S : Nat → Prop), W.heap.size ≤ B → Mod S W w → Mod S W w') → (∀ g, v'.ownBlock = some g → v.ownBlock = some g ∨ w.heap.size ≤ g) → K (a.put o.dst v') w') :
    if Region.wanted o (yielded ops a.tmps) = true then Oper.wp Tryd.prog o a w K Q else E := by
  obtain ⟨i0, hi0, hz0, hz1, hz2⟩ := info_parts u8_info
  refine step_append_src _ hgd s x 47 ho B 5 i0 _ 1 1 Tryd.underlying47 hi0 hz0 hz1 hz2 rfl (by omega) v l.length (u8s l) hs hown A m c (u8s r) hx hin.2.2.1 hin.2.1 (u8s_one r) (by unfold maxLen; omega) (by omega) hB ?_
  intro v' w' h1 h2 h3
  have hM : Mod (fun j => v.ownBlock = some j) w w' := (Mod.refl _ _).grown h2 (fun k hk => .inl hk)
  refine h v' w' ?_ hM (fun W S hW hS => hS.into hM (fun i e => .inr (Nat.le_trans hW (hown.lt i e).1))) ?_
  · unfold Bytes
    have e1 : (l ++ r).length = l.length + m := by simp [hin.1]
    have e2 : u8s (l ++ r) = u8s l ++ u8s r := by simp [u8s]
    rw [e1, e2]
    exact h1
  · intro g hg
    rcases h3 with h3 | h3
    · exact .inl (h3 ▸ hg)
    · rw [h3] at hg
      injection hg with hg
      exact .inr (by omega)

theorem IntsOwn.whole {w : World} {B g : Nat} {l : List Int} (hB : B ≤ g) (h : Blk w g 3 (i64s l).toArray) (hl : l.length ≤ maxLen) : IntsOwn w B (.slice (some ⟨g, 0, none⟩) l.length l.length) l :=
  ⟨by simp [i64s], .inr ⟨g, l.length, _, rfl, hB, h, Nat.le_refl _, hl, by simp [i64s], by rw [Nat.mul_one]; exact List.take_of_length_le (by simp [i64s])⟩⟩
theorem IntsOwn.cap {w : World} {B : Nat} {A : Option Addr} {n c : Nat} {l : List Int} (h : IntsOwn w B (.slice A n c) l) : n ≤ c := by
  rcases h.2 with ⟨hv, _⟩ | ⟨g, cap, cur, hv, _, _, h1, _⟩
  · injection hv with _ h2 h3
    omega
  · injection hv with _ h2 h3
    omega
theorem IntsOwn.mod {S : Nat → Prop} {w w' : World} {B : Nat} {v : Value} {l : List Int} (h : IntsOwn w B v l) (hm : Mod S w w') (hS : ∀ g, v.ownBlock = some g → ¬ S g) : IntsOwn w' B v l := own_mod h hm hS
theorem IntsOwn.quiet {w w' : World} {B : Nat} {v : Value} {l : List Int} (h : IntsOwn w B v l) (hm : Mod (fun _ => False) w w') : IntsOwn w' B v l := own_mod h hm (fun _ _ h => h)
theorem Bytes.mod {S : Nat → Prop} {w w' : World} {B : Nat} {v : Value} {l : List UInt8} (h : Bytes w B v l) (hm : Mod S w w') (hS : ∀ g, v.ownBlock = some g → ¬ S g) : Bytes w' B v l := own_mod h hm hS
theorem Bytes.quiet {w w' : World} {B : Nat} {v : Value} {l : List UInt8} (h : Bytes w B v l) (hm : Mod (fun _ => False) w w') : Bytes w' B v l := own_mod h hm (fun _ _ h => h)
theorem Bytes.cap {w : World} {B : Nat} {A : Option Addr} {n c : Nat} {l : List UInt8} (h : Bytes w B (.slice A n c) l) : n ≤ c := by
  rcases h.2 with ⟨hv, _⟩ | ⟨g, cap, cur, hv, _, _, h1, _⟩
  · injection hv with _ h2 h3
    omega
  · injection hv with _ h2 h3
    omega
theorem IntsOwn.nil (w : World) (B : Nat) : IntsOwn w B (.slice none 0 0) [] := World.ownsRow_nil _ _ _ _
theorem Bytes.nil (w : World) (B : Nat) : Bytes w B (.slice none 0 0) [] := World.ownsRow_nil _ _ _ _
end Go.Proofs.YtkobngipbhjfjaaDoor
