/-
  append of one int, or one byte, or of ints that lie elsewhere, onto a row that the call owns.
-/
import Derived.Test.YteppnjgfebcmjaaGreatM1
import Derived.Test.YteppnjgfebcmjaaGreatM9
import Derived.BigQuiet
namespace Go.Proofs.YteppnjgfebcmjaaGreat
open Go.RowKit

theorem wpList_app_int {ops : Array Oper} {rest : List Oper} {o : Oper} {a : Act} {Q : Exit → Act → World → Prop} (w : World) (hgd : o.guard = none) (s x : Operand)
    (ho : o.op = .call { callee := .builtin .append, args := #[s, x], argTypes := #[48, 48] })
    (B : Nat) (v : Value) (l : List Int) (y : Int) (hs : a.eval s = v) (hx : a.eval x = .slice (some ⟨w.heap.size, 0, none⟩) 1 1) (hown : IntsOwn w B v l) (hB : B ≤ w.heap.size) (hl : l.length < 1048576)
    (h : ∀ v' w', IntsOwn w' B v' (l ++ [y]) → Mod (fun j => v.ownBlock = some j) w w' → (∀ (W : World) (S : Nat → Prop), W.heap.size ≤ B → Mod S W w → Mod S W w') → (∀ g, v'.ownBlock = some g → v.ownBlock = some g ∨ w.heap.size ≤ g) → wpList Tryz.prog ops Q rest (a.put o.dst v') w') :
    wpList Tryz.prog ops Q (o :: rest) a (w.alloc (.cells #[.int .i64 y] 3)) := by
  obtain ⟨i0, hi0, hz0, hz1, hz2⟩ := info_parts int_info
  refine wpList_append_src _ hgd s x 48 ho B 3 i0 _ 1 8 Tryz.underlying48 hi0 hz0 hz1 hz2 rfl (by omega) v l.length (i64s l) hs (own_mod hown ((Mod.refl (fun _ => False) w).alloc _) (fun _ _ h => h)) (some ⟨w.heap.size, 0, none⟩) 1 1 [.int .i64 y] hx (Src.new w 3 [.int .i64 y]) (fun h => by cases h) (fun u hu => by rw [List.mem_singleton.1 hu]; rfl) (by unfold maxLen; omega) (by omega) (by simp; omega) ?_
  intro v' w' h1 h2 h3
  have hM : Mod (fun j => v.ownBlock = some j) w w' := ((Mod.refl _ _).alloc _).grown h2 (fun k hk => .inl hk)
  refine h v' w' ?_ hM (fun W S hW hS => hS.into hM (fun i e => .inr (Nat.le_trans hW (hown.lt i e).1))) ?_
  · unfold IntsOwn
    have e1 : (l ++ [y]).length = l.length + 1 := by simp
    have e2 : i64s (l ++ [y]) = i64s l ++ [.int .i64 y] := by simp [i64s]
    rw [e1, e2]
    exact h1
  · intro g hg
    rcases h3 with h3 | h3
    · exact .inl (h3 ▸ hg)
    · rw [h3] at hg
      injection hg with hg
      exact .inr (by simp at hg; omega)

theorem wpList_app_ints {ops : Array Oper} {rest : List Oper} {o : Oper} {a : Act} {Q : Exit → Act → World → Prop} (w : World) (hgd : o.guard = none) (s x : Operand)
    (ho : o.op = .call { callee := .builtin .append, args := #[s, x], argTypes := #[48, 48] })
    (B : Nat) (v : Value) (l : List Int) (A : Option Addr) (m c : Nat) (r : List Int) (hs : a.eval s = v) (hx : a.eval x = .slice A m c) (hown : IntsOwn w B v l) (hin : IntsIn w A m c r) (hB : B ≤ w.heap.size) (hl : l.length + m ≤ 1048576)
    (h : ∀ v' w', IntsOwn w' B v' (l ++ r) → Mod (fun j => v.ownBlock = some j) w w' → (∀ (W : World) (S : Nat → Prop), W.heap.size ≤ B → Mod S W w → Mod S W w') → (∀ g, v'.ownBlock = some g → v.ownBlock = some g ∨ w.heap.size ≤ g) → wpList Tryz.prog ops Q rest (a.put o.dst v') w') :
    wpList Tryz.prog ops Q (o :: rest) a w := by
  obtain ⟨i0, hi0, hz0, hz1, hz2⟩ := info_parts int_info
  refine wpList_append_src _ hgd s x 48 ho B 3 i0 _ 1 8 Tryz.underlying48 hi0 hz0 hz1 hz2 rfl (by omega) v l.length (i64s l) hs hown A m c (i64s r) hx hin.2.2.1 hin.2.1 (i64s_one r) (by unfold maxLen; omega) (by omega) hB ?_
  intro v' w' h1 h2 h3
  have hM : Mod (fun j => v.ownBlock = some j) w w' := (Mod.refl _ _).grown h2 (fun k hk => .inl hk)
  refine h v' w' ?_ hM (fun W S hW hS => hS.into hM (fun i e => .inr (Nat.le_trans hW (hown.lt i e).1))) ?_
  · unfold IntsOwn
    have e1 : (l ++ r).length = l.length + m := by simp [hin.1]
    have e2 : i64s (l ++ r) = i64s l ++ i64s r := by simp [i64s]
    rw [e1, e2]
    exact h1
  · intro g hg
    rcases h3 with h3 | h3
    · exact .inl (h3 ▸ hg)
    · rw [h3] at hg
      injection hg with hg
      exact .inr (by omega)

theorem step_app_int {ops : Array Oper} {o : Oper} {a : Act} {K : Act → World → Prop} {Q : Exit → Act → World → Prop} {E : Prop} (w : World) (hgd : o.guard = none) (s x : Operand)
    (ho : o.op = .call { callee := .builtin .append, args := #[s, x], argTypes := #[48, 48] })
    (B : Nat) (v : Value) (l : List Int) (y : Int) (hs : a.eval s = v) (hx : a.eval x = .slice (some ⟨w.heap.size, 0, none⟩) 1 1) (hown : IntsOwn w B v l) (hB : B ≤ w.heap.size) (hl : l.length < 1048576)
    (h : ∀ v' w', IntsOwn w' B v' (l ++ [y]) → Mod (fun j => v.ownBlock = some j) w w' → (∀ (W : World) (S : Nat → Prop), W.heap.size ≤ B → Mod S W w → Mod S W w') → (∀ g, v'.ownBlock = some g → v.ownBlock = some g ∨ w.heap.size ≤ g) → K (a.put o.dst v') w') :
    if Region.wanted o (yielded ops a.tmps) = true then Oper.wp Tryz.prog o a (w.alloc (.cells #[.int .i64 y] 3)) K Q else E := by
  obtain ⟨i0, hi0, hz0, hz1, hz2⟩ := info_parts int_info
  refine step_append_src _ hgd s x 48 ho B 3 i0 _ 1 8 Tryz.underlying48 hi0 hz0 hz1 hz2 rfl (by omega) v l.length (i64s l) hs (own_mod hown ((Mod.refl (fun _ => False) w).alloc _) (fun _ _ h => h)) (some ⟨w.heap.size, 0, none⟩) 1 1 [.int .i64 y] hx (Src.new w 3 [.int .i64 y]) (fun h => by cases h) (fun u hu => by rw [List.mem_singleton.1 hu]; rfl) (by unfold maxLen; omega) (by omega) (by simp; omega) ?_
  intro v' w' h1 h2 h3
  have hM : Mod (fun j => v.ownBlock = some j) w w' := ((Mod.refl _ _).alloc _).grown h2 (fun k hk => .inl hk)
  refine h v' w' ?_ hM (fun W S hW hS => hS.into hM (fun i e => .inr (Nat.le_trans hW (hown.lt i e).1))) ?_
  · unfold IntsOwn
    have e1 : (l ++ [y]).length = l.length + 1 := by simp
    have e2 : i64s (l ++ [y]) = i64s l ++ [.int .i64 y] := by simp [i64s]
    rw [e1, e2]
    exact h1
  · intro g hg
    rcases h3 with h3 | h3
    · exact .inl (h3 ▸ hg)
    · rw [h3] at hg
      injection hg with hg
      exact .inr (by simp at hg; omega)

theorem step_app_ints {ops : Array Oper} {o : Oper} {a : Act} {K : Act → World → Prop} {Q : Exit → Act → World → Prop} {E : Prop} (w : World) (hgd : o.guard = none) (s x : Operand)
    (ho : o.op = .call { callee := .builtin .append, args := #[s, x], argTypes := #[48, 48] })
    (B : Nat) (v : Value) (l : List Int) (A : Option Addr) (m c : Nat) (r : List Int) (hs : a.eval s = v) (hx : a.eval x = .slice A m c) (hown : IntsOwn w B v l) (hin : IntsIn w A m c r) (hB : B ≤ w.heap.size) (hl : l.length + m ≤ 1048576)
    (h : ∀ v' w', IntsOwn w' B v' (l ++ r) → Mod (fun j => v.ownBlock = some j) w w' → (∀ (W : World) (S : Nat → Prop), W.heap.size ≤ B → Mod S W w → Mod S W w') → (∀ g, v'.ownBlock = some g → v.ownBlock = some g ∨ w.heap.size ≤ g) → K (a.put o.dst v') w') :
    if Region.wanted o (yielded ops a.tmps) = true then Oper.wp Tryz.prog o a w K Q else E := by
  obtain ⟨i0, hi0, hz0, hz1, hz2⟩ := info_parts int_info
  refine step_append_src _ hgd s x 48 ho B 3 i0 _ 1 8 Tryz.underlying48 hi0 hz0 hz1 hz2 rfl (by omega) v l.length (i64s l) hs hown A m c (i64s r) hx hin.2.2.1 hin.2.1 (i64s_one r) (by unfold maxLen; omega) (by omega) hB ?_
  intro v' w' h1 h2 h3
  have hM : Mod (fun j => v.ownBlock = some j) w w' := (Mod.refl _ _).grown h2 (fun k hk => .inl hk)
  refine h v' w' ?_ hM (fun W S hW hS => hS.into hM (fun i e => .inr (Nat.le_trans hW (hown.lt i e).1))) ?_
  · unfold IntsOwn
    have e1 : (l ++ r).length = l.length + m := by simp [hin.1]
    have e2 : i64s (l ++ r) = i64s l ++ i64s r := by simp [i64s]
    rw [e1, e2]
    exact h1
  · intro g hg
    rcases h3 with h3 | h3
    · exact .inl (h3 ▸ hg)
    · rw [h3] at hg
      injection hg with hg
      exact .inr (by omega)

theorem wpList_app_u8 {ops : Array Oper} {rest : List Oper} {o : Oper} {a : Act} {Q : Exit → Act → World → Prop} (w : World) (hgd : o.guard = none) (s x : Operand)
    (ho : o.op = .call { callee := .builtin .append, args := #[s, x], argTypes := #[22, 22] })
    (B : Nat) (v : Value) (l : List UInt8) (y : UInt8) (hs : a.eval s = v) (hx : a.eval x = .slice (some ⟨w.heap.size, 0, none⟩) 1 1) (hown : Bytes w B v l) (hB : B ≤ w.heap.size) (hl : l.length < 1048576)
    (h : ∀ v' w', Bytes w' B v' (l ++ [y]) → Mod (fun j => v.ownBlock = some j) w w' → (∀ (W : World) (S : Nat → Prop), W.heap.size ≤ B → Mod S W w → Mod S W w') → (∀ g, v'.ownBlock = some g → v.ownBlock = some g ∨ w.heap.size ≤ g) → wpList Tryz.prog ops Q rest (a.put o.dst v') w') :
    wpList Tryz.prog ops Q (o :: rest) a (w.alloc (.cells #[.int .u8 (y.toNat : Int)] 5)) := by
  obtain ⟨i0, hi0, hz0, hz1, hz2⟩ := info_parts u8_info
  refine wpList_append_src _ hgd s x 22 ho B 5 i0 _ 1 1 Tryz.underlying22 hi0 hz0 hz1 hz2 rfl (by omega) v l.length (u8s l) hs (own_mod hown ((Mod.refl (fun _ => False) w).alloc _) (fun _ _ h => h)) (some ⟨w.heap.size, 0, none⟩) 1 1 [.int .u8 (y.toNat : Int)] hx (Src.new w 5 [.int .u8 (y.toNat : Int)]) (fun h => by cases h) (fun u hu => by rw [List.mem_singleton.1 hu]; rfl) (by unfold maxLen; omega) (by omega) (by simp; omega) ?_
  intro v' w' h1 h2 h3
  have hM : Mod (fun j => v.ownBlock = some j) w w' := ((Mod.refl _ _).alloc _).grown h2 (fun k hk => .inl hk)
  refine h v' w' ?_ hM (fun W S hW hS => hS.into hM (fun i e => .inr (Nat.le_trans hW (hown.lt i e).1))) ?_
  · unfold Bytes
    have e1 : (l ++ [y]).length = l.length + 1 := by simp
    have e2 : u8s (l ++ [y]) = u8s l ++ [.int .u8 (y.toNat : Int)] := by simp [u8s]
    rw [e1, e2]
    exact h1
  · intro g hg
    rcases h3 with h3 | h3
    · exact .inl (h3 ▸ hg)
    · rw [h3] at hg
      injection hg with hg
      exact .inr (by simp at hg; omega)

theorem wpList_app_u8s {ops : Array Oper} {rest : List Oper} {o : Oper} {a : Act} {Q : Exit → Act → World → Prop} (w : World) (hgd : o.guard = none) (s x : Operand)
    (ho : o.op = .call { callee := .builtin .append, args := #[s, x], argTypes := #[22, 22] })
    (B : Nat) (v : Value) (l : List UInt8) (A : Option Addr) (m c : Nat) (r : List UInt8) (hs : a.eval s = v) (hx : a.eval x = .slice A m c) (hown : Bytes w B v l) (hin : BytesIn w A m c r) (hB : B ≤ w.heap.size) (hl : l.length + m ≤ 1048576)
    (h : ∀ v' w', Bytes w' B v' (l ++ r) → Mod (fun j => v.ownBlock = some j) w w' → (∀ (W : World) (S : Nat → Prop), W.heap.size ≤ B → Mod S W w → Mod S W w') → (∀ g, v'.ownBlock = some g → v.ownBlock = some g ∨ w.heap.size ≤ g) → wpList Tryz.prog ops Q rest (a.put o.dst v') w') :
    wpList Tryz.prog ops Q (o :: rest) a w := by
  obtain ⟨i0, hi0, hz0, hz1, hz2⟩ := info_parts u8_info
  refine wpList_append_src _ hgd s x 22 ho B 5 i0 _ 1 1 Tryz.underlying22 hi0 hz0 hz1 hz2 rfl (by omega) v l.length (u8s l) hs hown A m c (u8s r) hx hin.2.2.1 hin.2.1 (u8s_one r) (by unfold maxLen; omega) (by omega) hB ?_
  intro v' w' h1 h2 h3
  have hM : Mod (fun j => v.ownBlock = some j) w w' := (Mod.refl _ _).grown h2 (fun k hk => .inl hk)
  refine h v' w' ?_ hM (fun W S hW hS => hS.into hM (fun i e => .inr (Nat.le_trans hW (hown.lt i e).1))) ?_
  · unfold Bytes
    have e1 : (l ++ r).length = l.length + m := by simp [hin.1]
    have e2 : u8s (l ++ r) = u8s l ++ u8s r := by simp [u8s]
    rw [e1, e2]
    exact h1
  · intro g hg
    rcases h3 with h3 | h3
    · exact .inl (h3 ▸ hg)
    · rw [h3] at hg
      injection hg with hg
      exact .inr (by omega)

theorem step_app_u8 {ops : Array Oper} {o : Oper} {a : Act} {K : Act → World → Prop} {Q : Exit → Act → World → Prop} {E : Prop} (w : World) (hgd : o.guard = none) (s x : Operand)
    (ho : o.op = .call { callee := .builtin .append, args := #[s, x], argTypes := #[22, 22] })
    (B : Nat) (v : Value) (l : List UInt8) (y : UInt8) (hs : a.eval s = v) (hx : a.eval x = .slice (some ⟨w.heap.size, 0, none⟩) 1 1) (hown : Bytes w B v l) (hB : B ≤ w.heap.size) (hl : l.length < 1048576)
    (h : ∀ v' w', Bytes w' B v' (l ++ [y]) → Mod (fun j => v.ownBlock = some j) w w' → (∀ (W : World) (S : Nat → Prop), W.heap.size ≤ B → Mod S W w → Mod S W w') → (∀ g, v'.ownBlock = some g → v.ownBlock = some g ∨ w.heap.size ≤ g) → K (a.put o.dst v') w') :
    if Region.wanted o (yielded ops a.tmps) = true then Oper.wp Tryz.prog o a (w.alloc (.cells #[.int .u8 (y.toNat : Int)] 5)) K Q else E := by
  obtain ⟨i0, hi0, hz0, hz1, hz2⟩ := info_parts u8_info
  refine step_append_src _ hgd s x 22 ho B 5 i0 _ 1 1 Tryz.underlying22 hi0 hz0 hz1 hz2 rfl (by omega) v l.length (u8s l) hs (own_mod hown ((Mod.refl (fun _ => False) w).alloc _) (fun _ _ h => h)) (some ⟨w.heap.size, 0, none⟩) 1 1 [.int .u8 (y.toNat : Int)] hx (Src.new w 5 [.int .u8 (y.toNat : Int)]) (fun h => by cases h) (fun u hu => by rw [List.mem_singleton.1 hu]; rfl) (by unfold maxLen; omega) (by omega) (by simp; omega) ?_
  intro v' w' h1 h2 h3
  have hM : Mod (fun j => v.ownBlock = some j) w w' := ((Mod.refl _ _).alloc _).grown h2 (fun k hk => .inl hk)
  refine h v' w' ?_ hM (fun W S hW hS => hS.into hM (fun i e => .inr (Nat.le_trans hW (hown.lt i e).1))) ?_
  · unfold Bytes
    have e1 : (l ++ [y]).length = l.length + 1 := by simp
    have e2 : u8s (l ++ [y]) = u8s l ++ [.int .u8 (y.toNat : Int)] := by simp [u8s]
    rw [e1, e2]
    exact h1
  · intro g hg
    rcases h3 with h3 | h3
    · exact .inl (h3 ▸ hg)
    · rw [h3] at hg
      injection hg with hg
      exact .inr (by simp at hg; omega)

theorem step_app_u8s {ops : Array Oper} {o : Oper} {a : Act} {K : Act → World → Prop} {Q : Exit → Act → World → Prop} {E : Prop} (w : World) (hgd : o.guard = none) (s x : Operand)
    (ho : o.op = .call { callee := .builtin .append, args := #[s, x], argTypes := #[22, 22] })
    (B : Nat) (v : Value) (l : List UInt8) (A : Option Addr) (m c : Nat) (r : List UInt8) (hs : a.eval s = v) (hx : a.eval x = .slice A m c) (hown : Bytes w B v l) (hin : BytesIn w A m c r) (hB : B ≤ w.heap.size) (hl : l.length + m ≤ 1048576)
    (h : ∀ v' w', Bytes w' B v' (l ++ r) → Mod (fun j => v.ownBlock = some j) w w' → (∀ (W : World) (S : Nat → Prop), W.heap.size ≤ B → Mod S W w → Mod S W w') → (∀ g, v'.ownBlock = some g → v.ownBlock = some g ∨ w.heap.size ≤ g) → K (a.put o.dst v') w') :
    if Region.wanted o (yielded ops a.tmps) = true then Oper.wp Tryz.prog o a w K Q else E := by
  obtain ⟨i0, hi0, hz0, hz1, hz2⟩ := info_parts u8_info
  refine step_append_src _ hgd s x 22 ho B 5 i0 _ 1 1 Tryz.underlying22 hi0 hz0 hz1 hz2 rfl (by omega) v l.length (u8s l) hs hown A m c (u8s r) hx hin.2.2.1 hin.2.1 (u8s_one r) (by unfold maxLen; omega) (by omega) hB ?_
  intro v' w' h1 h2 h3
  have hM : Mod (fun j => v.ownBlock = some j) w w' := (Mod.refl _ _).grown h2 (fun k hk => .inl hk)
  refine h v' w' ?_ hM (fun W S hW hS => hS.into hM (fun i e => .inr (Nat.le_trans hW (hown.lt i e).1))) ?_
  · unfold Bytes
    have e1 : (l ++ r).length = l.length + m := by simp [hin.1]
    have e2 : u8s (l ++ r) = u8s l ++ u8s r := by simp [u8s]
    rw [e1, e2]
    exact h1
  · intro g hg
    rcases h3 with h3 | h3
    · exact .inl (h3 ▸ hg)
    · rw [h3] at hg
      injection hg with hg
      exact .inr (by omega)

theorem IntsOwn.whole {w : World} {B g : Nat} {l : List Int} (hB : B ≤ g) (h : Blk w g 3 (i64s l).toArray) (hl : l.length ≤ maxLen) : IntsOwn w B (.slice (some ⟨g, 0, none⟩) l.length l.length) l :=
  ⟨by simp [i64s], .inr ⟨g, l.length, _, rfl, hB, h, Nat.le_refl _, hl, by simp [i64s], by rw [Nat.mul_one]; exact List.take_of_length_le (by simp [i64s])⟩⟩
theorem IntsOwn.cap {w : World} {B : Nat} {A : Option Addr} {n c : Nat} {l : List Int} (h : IntsOwn w B (.slice A n c) l) : n ≤ c := by
  rcases h.2 with ⟨hv, _⟩ | ⟨g, cap, cur, hv, _, _, h1, _⟩
  · injection hv with _ h2 h3
    omega
  · injection hv with _ h2 h3
    omega
theorem IntsOwn.mod {S : Nat → Prop} {w w' : World} {B : Nat} {v : Value} {l : List Int} (h : IntsOwn w B v l) (hm : Mod S w w') (hS : ∀ g, v.ownBlock = some g → ¬ S g) : IntsOwn w' B v l := own_mod h hm hS
theorem IntsOwn.quiet {w w' : World} {B : Nat} {v : Value} {l : List Int} (h : IntsOwn w B v l) (hm : Mod (fun _ => False) w w') : IntsOwn w' B v l := own_mod h hm (fun _ _ h => h)
theorem Bytes.mod {S : Nat → Prop} {w w' : World} {B : Nat} {v : Value} {l : List UInt8} (h : Bytes w B v l) (hm : Mod S w w') (hS : ∀ g, v.ownBlock = some g → ¬ S g) : Bytes w' B v l := own_mod h hm hS
theorem Bytes.quiet {w w' : World} {B : Nat} {v : Value} {l : List UInt8} (h : Bytes w B v l) (hm : Mod (fun _ => False) w w') : Bytes w' B v l := own_mod h hm (fun _ _ h => h)
theorem Bytes.cap {w : World} {B : Nat} {A : Option Addr} {n c : Nat} {l : List UInt8} (h : Bytes w B (.slice A n c) l) : n ≤ c := by
  rcases h.2 with ⟨hv, _⟩ | ⟨g, cap, cur, hv, _, _, h1, _⟩
  · injection hv with _ h2 h3
    omega
  · injection hv with _ h2 h3
    omega
theorem IntsOwn.nil (w : World) (B : Nat) : IntsOwn w B (.slice none 0 0) [] := World.ownsRow_nil _ _ _ _
theorem Bytes.nil (w : World) (B : Nat) : Bytes w B (.slice none 0 0) [] := World.ownsRow_nil _ _ _ _
end Go.Proofs.YteppnjgfebcmjaaGreat

/-
  The reference's reader of bits.
-/
namespace Go.Proofs.YteppnjgfebcmjaaGreat
open Go.RowKit

theorem wpList_app_wide {ops : Array Oper} {rest : List Oper} {o : Oper} {a : Act} {Q : Exit → Act → World → Prop} (w : World) (hgd : o.guard = none) (s x : Operand)
    (ho : o.op = .call { callee := .builtin .append, args := #[s, x], argTypes := #[22, 22] })
    (B : Nat) (v : Value) (l : List UInt8) (A : Option Addr) (m c : Nat) (r : List UInt8) (hs : a.eval s = v) (hx : a.eval x = .slice A m c) (hown : Bytes w B v l) (hin : BytesIn w A m c r) (hB : B ≤ w.heap.size) (hl : l.length + m ≤ 140737488355328)
    (h : ∀ v' w', Bytes w' B v' (l ++ r) → (∀ (W : World) (S : Nat → Prop), W.heap.size ≤ B → Mod S W w → Mod S W w') → wpList Tryz.prog ops Q rest (a.put o.dst v') w') :
    wpList Tryz.prog ops Q (o :: rest) a w := by
  obtain ⟨i0, hi0, hz0, hz1, hz2⟩ := info_parts u8_info
  refine wpList_append_src _ hgd s x 22 ho B 5 i0 _ 1 1 Tryz.underlying22 hi0 hz0 hz1 hz2 rfl (by omega) v l.length (u8s l) hs hown A m c (u8s r) hx hin.2.2.1 hin.2.1 (u8s_one r) (by unfold maxLen; omega) (by omega) hB ?_
  intro v' w' h1 h2 h3
  have hM : Mod (fun j => v.ownBlock = some j) w w' := (Mod.refl _ _).grown h2 (fun k hk => .inl hk)
  refine h v' w' ?_ (fun W S hW hS => hS.into hM (fun i e => .inr (Nat.le_trans hW (hown.lt i e).1)))
  unfold Bytes
  have e1 : (l ++ r).length = l.length + m := by simp [hin.1]
  have e2 : u8s (l ++ r) = u8s l ++ u8s r := by simp [u8s]
  rw [e1, e2]
  exact h1

/-- The bits of bytes, as noughts and ones. -/
def rowL (l : List UInt8) : List UInt8 := l.flatMap fun b => digitsL b.toNat 8
theorem rowL_length (l : List UInt8) : (rowL l).length = 8 * l.length := by
  induction l with
  | nil => rfl
  | cons b l ih => simp only [rowL, List.flatMap_cons, List.length_append, digitsL_length, List.length_cons] at *; omega
theorem rowL_snoc (l : List UInt8) (b : UInt8) : rowL (l ++ [b]) = rowL l ++ digitsL b.toNat 8 := by simp [rowL]
theorem rowL_take (l : List UInt8) (k : Nat) (hk : k < l.length) : rowL (l.take (k + 1)) = rowL (l.take k) ++ digitsL (l.getD k 0).toNat 8 := by
  rw [List.take_succ_eq_append_getElem hk, rowL_snoc, List.getD_eq_getElem?_getD, List.getElem?_eq_getElem hk]
  rfl
theorem digitsL_get (v : Nat) : ∀ (n i : Nat), i < n → ((digitsL v n).getD i 0).toNat = v / 2 ^ (n - 1 - i) % 2 := by
  intro n
  induction n with
  | zero => intro i h; omega
  | succ n ih =>
    intro i h
    cases i with
    | zero =>
      simp only [digitsL, List.getD_cons_zero]
      rw [bit_nat]
      rfl
    | succ i =>
      simp only [digitsL, List.getD_cons_succ]
      rw [ih i (by omega), show n + 1 - 1 - (i + 1) = n - 1 - i by omega]
theorem rowL_get (l : List UInt8) : ∀ i, i < 8 * l.length → ((rowL l).getD i 0).toNat = bitAt l i := by
  induction l with
  | nil => intro i h; simp at h
  | cons b l ih =>
    intro i h
    simp only [List.length_cons] at h
    show ((digitsL b.toNat 8 ++ rowL l).getD i 0).toNat = _
    by_cases h8 : i < 8
    · rw [List.getD_eq_getElem?_getD, List.getElem?_append_left (by rw [digitsL_length]; exact h8), ← List.getD_eq_getElem?_getD, digitsL_get _ _ _ h8]
      unfold bitAt
      rw [show i / 8 = 0 by omega, show i % 8 = i by omega]
      rfl
    · rw [List.getD_eq_getElem?_getD, List.getElem?_append_right (by rw [digitsL_length]; omega), ← List.getD_eq_getElem?_getD, digitsL_length, ih _ (by omega)]
      unfold bitAt
      rw [show i / 8 = (i - 8) / 8 + 1 by omega, show i % 8 = (i - 8) % 8 by omega]
      rfl

def rowRel (w : World) (l : List UInt8) (v i : Value) (wr : World) : Prop :=
  ∃ k : Nat, k ≤ l.length ∧ i = .int .i64 (k : Int) ∧ Bytes wr w.heap.size v (rowL (l.take k)) ∧ Mod (fun _ => False) w wr

set_option maxRecDepth 100000 in
set_option maxHeartbeats 2000000 in
theorem refRow (w : World) (A : Option Addr) (n c : Nat) (l : List UInt8) (hin : BytesIn w A n c l) (hn : n ≤ 1048576) : Calls Tryz.prog 101 #[.slice A n c] w fun e w' => ∃ s, e = .returned s ∧ Bytes w' w.heap.size s (rowL l) ∧ Mod (fun _ => False) w w' := by
  obtain rfl : l.length = n := hin.1
  go_enter Tryz.func101, Tryz.ntmps101
  go_wp2_with fail
  go_loopw [3, 4] (rowRel w l) (fun _ i _ => l.length - (intOf i).toNat)
  case atStart => exact ⟨0, by omega, rfl, World.ownsRow_nil _ _ _ _, Mod.refl _ _⟩
  case round =>
    obtain ⟨k, hk, rfl, hrow, hM⟩ := hrel
    obtain ⟨A5, c5, hv5⟩ := own_shape hrow
    subst hv5
    by_cases hlt : k < l.length
    · obtain ⟨b, off, hA, hb, hcell⟩ := hin.place (by omega)
      subst hA
      have c1 : wr.cell? ⟨b, off + k, none⟩ = some (.int .u8 ((l.getD k 0).toNat : Int)) := (World.cell?_of_block (hM.block b hb (fun h => h))).trans (hcell k hlt)
      have hx : (l.getD k 0).toNat < 256 := UInt8.toNat_lt _
      have hsucc := rowL_take l k hlt
      have hlen : (rowL (l.take k)).length = 8 * k := by rw [rowL_length, List.length_take, Nat.min_eq_left (by omega)]
      have hcall := refDigits wr (l.getD k 0).toNat 8 (by omega) (by omega)
      generalize (l.getD k 0).toNat = x at *
      rw [hlen] at hrow ⊢
      have d1 : decide ((k : Int) < (l.length : Int)) = true := decide_eq_true (by omega)
      have HH := Lib.hid (And.intro hsucc (And.intro hrow (And.intro hM hlen)))
      clear hsucc hrow hM hlen
      go_wp2_with fail
      refine hcall.mono ?_
      clear hcall
      rintro e w1 ⟨s, rfl, hs, hm⟩
      obtain ⟨A6, c6, rfl⟩ := own_shape hs
      have hrow1 : Bytes w1 w.heap.size (.slice A5 (8 * k) c5) (rowL (l.take k)) := by
        have := HH.out.2.1.quiet hm
        exact this
      have hd : BytesIn w1 A6 8 c6 (digitsL x 8) := by
        have := hs.in_
        rwa [digitsL_length] at this
      rw [digitsL_length]
      have hB1 : w.heap.size ≤ w1.heap.size := Nat.le_trans HH.out.2.2.1.size hm.size
      have H1 := Lib.hid (And.intro hrow1 (And.intro hd (And.intro (HH.out.2.2.1.trans hm) hB1)))
      clear hm hs hrow1 hd hB1
      go_wp2_with (at_builtin; have _t := H1; refine wpList_app_wide _ rfl (.tmp 11) (.tmp 17) rfl w.heap.size (.slice A5 (8 * k) c5) (rowL (l.take k)) A6 8 c6 (digitsL x 8) rfl rfl H1.out.1 H1.out.2.1 H1.out.2.2.2 (by rw [HH.out.2.2.2]; omega) ?_; intro v2 w2 hown hW; have H2 := Lib.hid (And.intro hown hW); clear hown hW)
      have hf := H2.out.2 w (fun _ => False) (Nat.le_refl _) H1.out.2.2.1
      exact ⟨⟨k + 1, by omega, by go_num, by rw [HH.out.1]; exact H2.out.1, hf⟩, by simp [intOf]; omega⟩
    · obtain rfl : k = l.length := by omega
      have HF := Lib.hid (And.intro hrow hM)
      clear hrow hM
      go_wp2_with fail
      go_ret
      have := HF.out.1
      rw [List.take_length] at this
      exact ⟨_, rfl, by rw [List.take_length]; exact this, HF.out.2⟩
end Go.Proofs.YteppnjgfebcmjaaGreat
