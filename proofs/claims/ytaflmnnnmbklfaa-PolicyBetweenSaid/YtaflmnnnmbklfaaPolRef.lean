/-
  Contracts of the reference's Meter: Add.
-/
import Derived.Test.YtaflmnnnmbklfaaAppend
import Derived.Test.YtaflmnnnmbklfaaPolMtr
namespace Go.Proofs.Ytaflmnnnmbklfaa
open Go.RowKit

/-- The cells of downloads. -/
def dls : List Dl → List Value
  | [] => []
  | d :: r => .int .i64 d.1 :: .int .i64 d.2 :: dls r
theorem dls_append (l r : List Dl) : dls (l ++ r) = dls l ++ dls r := by
  induction l with
  | nil => rfl
  | cons d l ih => simp only [List.cons_append, dls, ih]
theorem dls_one (l : List Dl) : ∀ u ∈ dls l, u.oneCell' = true := by
  induction l with
  | nil => intro u h; cases h
  | cons d l ih =>
    intro u h
    simp only [dls, List.mem_cons] at h
    rcases h with rfl | rfl | h
    · rfl
    · rfl
    · exact ih u h
theorem dls_length (l : List Dl) : (dls l).length = l.length * 2 := by
  induction l with
  | nil => rfl
  | cons d l ih => simp only [dls, List.length_cons, ih]; omega
theorem dls_at (l : List Dl) (i : Nat) (h : i < l.length) : (dls l)[2 * i]? = some (.int .i64 (dlAt l i).1) ∧ (dls l)[2 * i + 1]? = some (.int .i64 (dlAt l i).2) := by
  induction l generalizing i with
  | nil => simp at h
  | cons d l ih =>
    cases i with
    | zero => exact ⟨rfl, rfl⟩
    | succ i =>
      have := ih i (by simpa using h)
      simpa [dls, dlAt, Nat.mul_add] using this

/-- Block g is the reference's meter behind the downloads L, its row a block from B on. -/
def RMeterIs (B : Nat) (w : World) (g : Nat) (L : List Dl) : Prop :=
  AllOk L ∧ L.length ≤ 65536 ∧ ∃ v, Blk w g 28 #[v] ∧ w.ownsRow B 58 2 v L.length (dls L)
theorem RMeterIs.lt {B : Nat} {w : World} {g : Nat} {L : List Dl} (h : RMeterIs B w g L) : g < w.heap.size := by
  obtain ⟨_, _, v, hb, _⟩ := h
  exact hb.lt
theorem RMeterIs.keep {B : Nat} {S : Nat → Prop} {w w' : World} {g : Nat} {L : List Dl} (h : RMeterIs B w g L) (hm : Mod S w w') (hg : ¬ S g) (hS : ∀ k, B ≤ k → k < w.heap.size → S k → ∃ t cs, Blk w k t cs ∧ t ≠ 58) : RMeterIs B w' g L := by
  obtain ⟨h1, h2, v, hb, hown⟩ := h
  refine ⟨h1, h2, v, hb.keep hm hg, own_mod hown hm fun k hk hs => ?_⟩
  obtain ⟨hk1, hk2⟩ := hown.lt k hk
  obtain ⟨t, cs, ht, hne⟩ := hS k hk1 hk2 hs
  exact own_ne_blk hown ht (fun e => hne e.symm) hk

theorem dl_info : (Try.prog.info? 58).map (fun i => (i.zero, i.size, i.bytes)) = some (some (.agg #[.int .i64 0, .int .i64 0]), 2, 16) := by kernel_rfl

theorem own_form {w : World} {B : Nat} {e : TypeId} {size n : Nat} {v : Value} {xs : List Value} (h : w.ownsRow B e size v n xs) : ∃ A m c, v = .slice A m c := by
  rcases h.2 with ⟨hv, _⟩ | ⟨g, cap, cur, hv, _⟩ <;> exact ⟨_, _, _, hv⟩

set_option maxHeartbeats 400000 in
theorem refAdd_no (p : Value) (b t : Int) (w : World) (h : dlOk b t = false) : Calls Try.prog 10 #[p, .int .i64 b, .int .i64 t] w fun e w' => e = .returned (.int .i64 1) ∧ w = w' := by
  have h' : b < 0 ∨ 1048576 < b ∨ t < 1 ∨ 1048576 < t := by
    unfold dlOk at h
    simp only [decide_eq_false_iff_not] at h
    omega
  clear h
  go_enter Try.func10, Try.ntmps10
  go_wp2_with fail
  all_goals first
    | (go_ret; exact ⟨rfl, rfl⟩)
    | (exfalso; omega)

set_option maxHeartbeats 400000 in
theorem refAdd (B g : Nat) (b t : Int) (L : List Dl) (w : World) (h : dlOk b t = true) (hm : RMeterIs B w g L) (hB : B ≤ w.heap.size) (hlen : L.length < 65536) :
    Calls Try.prog 10 #[.pointer (some ⟨g, 0, none⟩), .int .i64 b, .int .i64 t] w fun e w' => e = .returned (.int .i64 0) ∧ RMeterIs B w' g (L ++ [(b, t)]) ∧ Mod (· = g) w w' := by
  obtain ⟨hL, _, v, hb, hown⟩ := hm
  have hL' : AllOk (L ++ [(b, t)]) := fun d hd => by
    rcases List.mem_append.1 hd with hd | hd
    · exact hL d hd
    · rw [List.mem_singleton.1 hd]; exact h
  unfold dlOk at h
  simp only [decide_eq_true_eq] at h
  obtain ⟨h1, h2, h3, h4⟩ := h
  obtain ⟨A, m, c, rfl⟩ : ∃ A m c, v = .slice A m c := by
    rcases hown.2 with ⟨hv, _⟩ | ⟨g, cap, cur, hv, _⟩ <;> exact ⟨_, _, _, hv⟩
  obtain ⟨i0, hi0, hz0, hz1, hz2⟩ := info_parts dl_info
  obtain ⟨hc, hf⟩ := hb.both
  go_enter Try.func10, Try.ntmps10
  have hgl := hb.lt
  have hsrc := (Src.of_own hown).2
  have hm : m = L.length := (Src.of_own hown).1
  subst hm
  have hnil : A = none → c = 0 := by
    intro e
    subst e
    rcases hown.2 with ⟨hv, _⟩ | ⟨g, cap, cur, hv, _⟩
    · injection hv
    · injection hv with h1; cases h1
  have hin : ∀ ad, A = some ad → ad.block < w.heap.size := fun ad e => (hown.lt ad.block (by rw [e]; rfl)).2
  have hs1 : Src (w.alloc (.cells #[] 58)) 2 A L.length (dls L) := hsrc.keep fun ad e j => World.cell?_alloc_lt _ _ _ (by rw [addr_block]; exact hin ad e)
  have ho1 : (w.alloc (.cells #[] 58)).ownsRow B 58 2 (.slice (some ⟨w.heap.size, 0, none⟩) 0 0) 0 [] := World.ownsRow_made w #[] 0 hB (by decide) rfl
  have x1 : 0 + L.length ≤ maxLen := by unfold maxLen; omega
  have x2 : (0 + L.length) * 16 ≤ 140737488355328 := by omega
  have x3 : B ≤ (w.alloc (.cells #[] 58)).heap.size := by simp; omega
  have y1 : 0 + L.length + 1 ≤ maxLen := by unfold maxLen; omega
  have y2 : (0 + L.length + 1) * 16 ≤ 140737488355328 := by omega
  have HO := Lib.hid ho1
  have HS := Lib.hid hs1
  have HN := Lib.hid hnil
  have HX := Lib.hid (And.intro x1 (And.intro x2 x3))
  have HY := Lib.hid (And.intro y1 y2)
  clear hown hsrc hnil hin hs1 ho1 x1 x2 x3 y1 y2
  go_wp2_with (first
    | (at_builtin; have _t := HX; refine wpList_append_src _ rfl (.tmp 22) (.tmp 26) _ rfl B 58 i0 _ 2 16 Try.underlying26 hi0 hz0 hz1 hz2 rfl (by omega) (.slice (some ⟨w.heap.size, 0, none⟩) 0 0) 0 [] rfl HO.out A L.length c (dls L) rfl HS.out HN.out (dls_one L) HX.out.1 HX.out.2.1 HX.out.2.2 ?_; intro v1 w1 hown1 hg1 hat1; clear HX _t; have hsz1 : w.heap.size + 1 ≤ w1.heap.size := (by have := hg1.size; simpa using this); have hm1 : Mod (fun _ => False) w w1 := ((Mod.refl _ _).alloc _).grown hg1 (fun k hk => .inr (by simp [Value.ownBlock] at hk; omega)); have HOW := Lib.hid (And.intro hown1 (And.intro hg1 hat1)); clear hown1 hg1 hat1; have hb1 := hb.keep hm1 (fun h => h); obtain ⟨hc1, hf1⟩ := hb1.both; have HM := Lib.hid hm1; clear hc hf hm1 hb1)
    | (at_builtin; have _t := HY; refine wpList_append_src _ rfl (.tmp 27) (.tmp 31) _ rfl B 58 i0 _ 2 16 Try.underlying26 hi0 hz0 hz1 hz2 rfl (by omega) v1 (0 + L.length) ([] ++ dls L) rfl (HOW.out.1.alloc _) (some ⟨w1.heap.size, 0, none⟩) 1 1 (dls [(b, t)]) rfl (Src.new w1 58 (dls [(b, t)])) (fun h => by cases h) (dls_one _) HY.out.1 HY.out.2 (by simp; omega) ?_; intro v2 w2 hown2 hg2 hat2; clear HY _t; have hm2 : Mod (fun _ => False) w w2 := (HM.out.alloc _).grown hg2 (fun k hk => .inr (by rcases HOW.out.2.2 with e | e <;> rw [e] at hk <;> simp [Value.ownBlock] at hk <;> omega)); have hne : v2.ownBlock ≠ some g := (by rcases hat2 with e | e; rw [e]; rcases HOW.out.2.2 with e | e <;> rw [e] <;> simp [Value.ownBlock] <;> omega; rw [e]; simp; omega); have hb2 := hb.keep hm2 (fun h => h); obtain ⟨hc2, hf2⟩ := hb2.both; have HR := Lib.hid (And.intro hown2 (And.intro hm2 (And.intro hne hb2))); clear hown2 hg2 hat2 hm2 hne hb2 hc1 hf1 HM HOW; obtain ⟨A2, m2, c2, rfl⟩ : ∃ A m c, v2 = .slice A m c := own_form HR.out.1))
  go_ret
  obtain ⟨hown2, hm2, hne, hb2⟩ := HR.out
  refine ⟨rfl, ⟨hL', by rw [List.length_append, List.length_singleton]; omega, _, hb2.set_ 0 _, ?_⟩, ?_⟩
  · have e : dls (L ++ [(b, t)]) = [] ++ dls L ++ dls [(b, t)] := by rw [dls_append]; rfl
    rw [e, List.length_append, List.length_singleton, ← Nat.zero_add L.length]
    exact own_mod hown2 ((Mod.refl (· = g) _).setCell (by exact .inl rfl) _) (fun k hk e => hne (by rw [hk, e]))
  · exact Mod.setCell (hm2.mono fun _ h => h.elim) (by exact .inl rfl) _
end Go.Proofs.Ytaflmnnnmbklfaa
