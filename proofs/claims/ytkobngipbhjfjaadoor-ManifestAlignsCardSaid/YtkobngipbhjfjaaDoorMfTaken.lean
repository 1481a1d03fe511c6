/-
  manifest.Right's first closure: is a text there already? It is from now on.
-/
import Derived.Test.YtkobngipbhjfjaaDoorMfRep
import Derived.Maps.OwnSet
import Derived.Maps.OwnOps
namespace Go.Proofs.YtkobngipbhjfjaaDoor
open Go.RowKit Go.WideMaps Go.Maps

theorem mlaw : Keyed Tryd.prog 9 := string_keyed Tryd.underlying9
theorem mzero (w : World) : (zeroValue 3).run Tryd.prog w = .ok (.int .i64 0) w := by kernel_rfl
/-- Block B is a map that counts the texts ss. -/
def Seen (w : World) (B : Nat) (ss : List Str) : Prop :=
  ∃ D : DataW Unit, w.ownsMap Tryd.prog 9 (plainElem Tryd.prog 3) B ss.length D ∧ IsMap D ∧ ∀ s : Str, s.length ≤ 9223372036854775807 → D.atKey (.string s) (.lit (.int .i64 0)) = .lit (.int .i64 (ss.count s : Int))
theorem Seen.lt {w : World} {B : Nat} {ss : List Str} (h : Seen w B ss) : B < w.heap.size := h.choose_spec.1.lt
theorem Seen.keep {S : Nat → Prop} {w w' : World} {B : Nat} {ss : List Str} (h : Seen w B ss) (hm : Mod S w w') (hB : ¬ S B) : Seen w' B ss := by
  have hl := h.lt
  obtain ⟨D, ⟨es, clock, h1, h2⟩, h3⟩ := h
  exact ⟨D, ⟨es, clock, (hm.block B hl hB).trans h1, h2⟩, h3⟩
theorem Seen.made (w : World) : Seen (w.alloc (.map #[] 0)) w.heap.size [] :=
  ⟨.map [], World.ownsMap_made _ _ _ _, isMap_empty, fun _ _ => rfl⟩
theorem key_of {s : Str} (hs : s.length ≤ 9223372036854775807) : keyOf Tryd.prog 9 (.string (strOf s)) = some (.string s) := by
  have h := keyOf_string_mk Tryd.underlying9 (s := strOf s) (by rw [strOf_size]; unfold maxLen; omega)
  rw [strOf_data] at h
  exact h
theorem lit_string_ne {a b : Str} (h : a ≠ b) : (Lit.string a) ≠ (Lit.string b) := fun e => h (by injection e)
theorem isKey_string (s : Str) : WideAt.IsKeyLit (.string s) := trivial
theorem Seen.step {D : DataW Unit} {ss : List Str} {s : Str} (hD : IsMap D) (h : ∀ s : Str, s.length ≤ 9223372036854775807 → D.atKey (.string s) (.lit (.int .i64 0)) = .lit (.int .i64 (ss.count s : Int))) (hs : s.length ≤ 9223372036854775807) (x : Int) (hx : x = ss.count s + 1) :
    ∀ t : Str, t.length ≤ 9223372036854775807 → (D.put (.string s) (.lit (.int .i64 x))).atKey (.string t) (.lit (.int .i64 0)) = .lit (.int .i64 ((ss ++ [s]).count t : Int)) := by
  intro t ht
  by_cases e : t = s
  · subst e
    rw [atKey_put_same hD (isKey_string t)]
    simp [hx]
  · rw [atKey_put_other (lit_string_ne e), h t ht, List.count_append]
    simp [Ne.symm e]
def TakenPost (w : World) (B : Nat) (ss : List Str) (s : Str) (e : Ending) (w' : World) : Prop := e = .returned (.bool (ss.contains s)) ∧ Seen w' B (ss ++ [s]) ∧ Mod (fun k => k = B) w w'
set_option maxHeartbeats 2000000 in
theorem pTaken (w : World) (B : Nat) (ss : List Str) (s : Str) (hs : s.length ≤ 9223372036854775807) (hn : ss.length ≤ 1048576) (h : Seen w B ss) : Calls Tryd.prog 28 #[.map (some B), .string (strOf s)] w (TakenPost w B ss s) := by
  obtain ⟨D, hown, hD, hat⟩ := h
  have hkey := key_of hs
  have hcnt := hat s hs
  have hcl := List.count_le_length (a := s) (l := ss)
  have hmem : ss.contains s = decide (0 < ss.count s) := by
    rw [List.contains_eq_mem]
    exact decide_eq_decide.2 List.count_pos_iff.symm
  have H := Lib.hid (And.intro hmem (And.intro hD (And.intro hat (And.intro hcnt hkey))))
  clear hmem hD hat hcnt hkey
  go_enter Tryd.func28, Tryd.ntmps28
  go_wp2_with (at_lookup; have _t := H; refine wpList_lookup_own_int _ rfl _ _ 54 rfl 9 3 .i64 mlaw Tryd.underlying54 Tryd.underlying3 (mzero _) B ss.length _ rfl hown _ _ rfl H.out.2.2.2.2 ?_; intro c hc hwc; refine Hid.out ?_)
  refine Lib.hid ?_
  obtain rfl : c = (ss.count s : Int) := by
    have h1 := hc.symm.trans H.out.2.2.2.1
    injection h1 with h1
    injection h1
  have HC := Lib.hid hc
  clear hc hwc
  have hc0 : 0 ≤ (ss.count s : Int) := by omega
  have hc1 : (ss.count s : Int) ≤ 1048576 := by omega
  go_wp2_with (at_mapUpdate; refine wpList_mapUpdate_own _ rfl _ _ _ 54 rfl 9 3 mlaw Tryd.underlying54 _ B ss.length D rfl hown (by unfold maxLen; omega) _ _ _ rfl rfl H.out.2.2.2.2 (.lit (.int .i64 ((ss.count s : Int) + 1))) [] (plainElem_int Tryd.underlying3 (WalkArith.wf_i64 (by omega))) ?_; intro w1 hown1 hgrow1; refine Hid.out ?_)
  refine Lib.hid ?_
  have hat1 := Seen.step H.out.2.1 H.out.2.2.1 hs _ rfl
  have H1 := Lib.hid (And.intro hown1 (And.intro (H.out.2.1.put (.string s) (.lit (.int .i64 ((ss.count s : Int) + 1)))) (And.intro hat1 (And.intro hgrow1 (hat1 s hs)))))
  clear hown1 hat1 hgrow1 hown
  go_wp2_with (at_lookup; refine wpList_lookup_own_int _ rfl _ _ 54 rfl 9 3 .i64 mlaw Tryd.underlying54 Tryd.underlying3 (mzero _) B (ss.length + 1) _ rfl H1.out.1 _ _ rfl H.out.2.2.2.2 ?_; intro c hc hwc; refine Hid.out ?_)
  refine Lib.hid ?_
  obtain rfl : c = (ss.count s : Int) + 1 := by
    have h1 := hc.symm.trans H1.out.2.2.2.2
    injection h1 with h1
    injection h1 with _ h1
    rw [h1]
    simp
  have HC2 := Lib.hid hc
  clear hc hwc HC
  have hS : Seen w1 B (ss ++ [s]) := ⟨_, by rw [List.length_append]; exact H1.out.1, H1.out.2.1, H1.out.2.2.1⟩
  have hM : Mod (fun k => k = B) w w1 := (Mod.refl _ w).grown H1.out.2.2.2.1 (fun k e => .inl (by injection e with e; exact e.symm))
  have HE := Lib.hid (And.intro hS hM)
  clear hS hM
  cases hb : decide (0 < ss.count s) with
  | true =>
    have d1 : decide ((1 : Int) < (ss.count s : Int) + 1) = true := decide_eq_true (by have := of_decide_eq_true hb; omega)
    have HB := Lib.hid hb
    clear hb
    go_wp2_with fail
    go_ret
    exact ⟨by rw [H.out.1, HB.out]; rfl, HE.out⟩
  | false =>
    have d1 : decide ((1 : Int) < (ss.count s : Int) + 1) = false := decide_eq_false (by have := of_decide_eq_false hb; omega)
    have HB := Lib.hid hb
    clear hb
    go_wp2_with fail
    go_ret
    exact ⟨by rw [H.out.1, HB.out]; rfl, HE.out⟩
end Go.Proofs.YtkobngipbhjfjaaDoor
