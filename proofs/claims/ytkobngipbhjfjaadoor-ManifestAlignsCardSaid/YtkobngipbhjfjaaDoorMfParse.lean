/-
  manifest.Parse, walked.
-/
import Derived.Test.YtkobngipbhjfjaaDoorMfSeq
import Derived.Test.YtkobngipbhjfjaaDoorMfRead
import Derived.Test.YtkobngipbhjfjaaDoorMfWrite
namespace Go.Proofs.YtkobngipbhjfjaaDoor
open Go.RowKit Go.Shelf
attribute [local go_sem] Oper.semAt_some

theorem cutL_len {c : UInt8} : ∀ {s : Str} {x : Str}, x ∈ cutL c s → x.length ≤ s.length
  | [], x, h => by
    simp [cutL] at h
    subst h
    simp
  | b :: r, x, h => by
    unfold cutL at h
    split at h
    · rcases List.mem_cons.1 h with rfl | h
      · simp
      · have := cutL_len h
        rw [List.length_cons]
        omega
    · split at h
      · rename_i hq
        exact absurd hq (cutL_ne c r)
      · rename_i p ps hq
        rcases List.mem_cons.1 h with rfl | h
        · have := cutL_len (show p ∈ cutL c r by rw [hq]; simp)
          simp
          omega
        · have := cutL_len (show x ∈ cutL c r by rw [hq]; simp [h])
          rw [List.length_cons]
          omega
theorem cutL_count {c : UInt8} : ∀ (s : Str), (cutL c s).length ≤ s.length + 1
  | [] => by simp [cutL]
  | b :: r => by
    have := cutL_count (c := c) r
    unfold cutL
    split
    · simp
      omega
    · split
      · simp
      · rename_i p ps hq
        rw [hq] at this
        simp at this ⊢
        omega
theorem foldO_none {num : Str → Option Int} {a b : List Str} {m : Mf} (h : a <+: b) (hn : foldO num a m = none) : foldO num b m = none := by
  obtain ⟨r, rfl⟩ := h
  rw [foldO_app, hn]
  rfl
theorem foldO_snoc {num : Str → Option Int} {a : List Str} {x : Str} {m : Mf} : foldO num (a ++ [x]) m = (foldO num a m).bind (stepO num (cutL 32 x)) := by
  rw [foldO_app]
  cases foldO num a m with
  | none => rfl
  | some m' =>
    simp only [Option.bind_some]
    rw [foldO]
    cases stepO num (cutL 32 x) m' <;> rfl
theorem Fr.keeps {B mb n : Nat} {w w' : World} {t : TypeId} {cs : Array Value} (h : Fr B mb w w') (hb : Blk w mb t cs) : KeepsFrom n w w' :=
  ⟨h.size, fun k o _ ho hc => h.same k o ho (fun e => by subst e; unfold Blk at hb; rw [hb] at ho; injection ho with ho; subst ho; cases hc) (fun _ t' ht' => by cases o <;> simp_all [tyOf, Obj.isCells])⟩

/-- Between two lines. -/
structure Mid (w0 : World) (pre : List Str) (W : World) : Prop where
  man : ∃ m v ps, foldO numP pre m0 = some m ∧ MfOwn W w0.heap.size (w0.heap.size + 1 + 1) v ps m ∧ cnt m ≤ pre.length
  res : Blk W w0.heap.size 24 #[.int .i64 0, .int .i64 0, .slice none 0 0]
  err : Blk W (w0.heap.size + 1) 27 #[.int .i64 0]
  sb : ∃ x, Blk W (w0.heap.size + 1 + 1 + 1) 9 #[x]
  pb : ∃ x, Blk W (w0.heap.size + 1 + 1 + 1 + 1) 9 #[x]
  vb : ∃ x, Blk W (w0.heap.size + 1 + 1 + 1 + 1 + 1) 3 #[x]
  old : Mod (fun _ => False) w0 W
/-- Behind a line that is none. -/
structure Bad (w0 : World) (s : Str) (W : World) : Prop where
  res : Blk W w0.heap.size 24 #[.int .i64 0, .int .i64 0, .slice none 0 0]
  err : Blk W (w0.heap.size + 1) 27 #[.int .i64 181]
  old : Mod (fun _ => False) w0 W
  none_ : parseO numP s = none
theorem blk_turn {W W' : World} {row : Option Nat} {g : Nat} {t : TypeId} {cs : Array Value} (h : Blk W g t cs) (hg : W.grownBy W' row) (hr : ∀ r, row = some r → ∃ o : Obj, W.heap[r]? = some o ∧ o.isCells = false) : Blk W' g t cs := by
  refine h.keep ((Mod.refl (fun i => row = some i) W).grown hg (fun k hk => .inl hk)) (fun e => ?_)
  obtain ⟨o, ho, hc⟩ := hr g e
  unfold Blk at h
  rw [h] at ho
  injection ho with ho
  subst ho
  cases hc
theorem own_turn {W W' : World} {row : Option Nat} {B mb : Nat} {v : Value} {ps : List (Ls × Value)} {m : Mf} (h : MfOwn W B mb v ps m) (hg : W.grownBy W' row) (hr : ∀ r, row = some r → ∃ o : Obj, W.heap[r]? = some o ∧ o.isCells = false) : MfOwn W' B mb v ps m := by
  have no : ∀ g t cs, Blk W g t cs → ¬ row = some g := fun g t cs hb e => by
    obtain ⟨o, ho, hc⟩ := hr g e
    unfold Blk at hb
    rw [hb] at ho
    injection ho with ho
    subst ho
    cases hc
  exact h.keep ((Mod.refl (fun i => row = some i) W).grown hg (fun k hk => .inl hk)) (no _ _ _ h.blk) (fun g t cs hb _ => no g t cs hb)
theorem Mid.turn {w0 : World} {B : Nat} (hB : w0.heap.size ≤ B) : OwnFrom B (Mid w0) := by
  intro pre W W' row h hg hr
  have hr' : ∀ r, row = some r → ∃ o : Obj, W.heap[r]? = some o ∧ o.isCells = false := fun r e => (hr r e).2
  obtain ⟨⟨m, v, ps, h1, h2, h3⟩, h4, h5, ⟨x, h6⟩, ⟨y, h7⟩, ⟨z, h8⟩, h9⟩ := h
  exact ⟨⟨m, v, ps, h1, own_turn h2 hg hr', h3⟩, blk_turn h4 hg hr', blk_turn h5 hg hr', ⟨x, blk_turn h6 hg hr'⟩, ⟨y, blk_turn h7 hg hr'⟩, ⟨z, blk_turn h8 hg hr'⟩, h9.grown hg (fun k hk => .inr (by have := (hr k hk).1; omega))⟩
theorem Bad.turn {w0 : World} {s : Str} {B : Nat} (hB : w0.heap.size ≤ B) : OwnFrom B (fun (_ : Unit) W => Bad w0 s W) := by
  intro _ W W' row h hg hr
  have hr' : ∀ r, row = some r → ∃ o : Obj, W.heap[r]? = some o ∧ o.isCells = false := fun r e => (hr r e).2
  exact ⟨blk_turn h.res hg hr', blk_turn h.err hg hr', h.old.grown hg (fun k hk => .inr (by have := (hr k hk).1; omega)), h.none_⟩
theorem Mid.state {w0 W : World} {pre : List Str} (h : Mid w0 pre W) (v : Value) : Mid w0 pre (W.setCell ⟨w0.heap.size + 1 + 1 + 1, 0, none⟩ v) := by
  obtain ⟨⟨m, u, ps, h1, h2, h3⟩, h4, h5, ⟨x, h6⟩, ⟨y, h7⟩, ⟨z, h8⟩, h9⟩ := h
  have hm : Mod (· = w0.heap.size + 1 + 1 + 1) W (W.setCell ⟨w0.heap.size + 1 + 1 + 1, 0, none⟩ v) := (Mod.refl (· = w0.heap.size + 1 + 1 + 1) W).setCell (p := ⟨w0.heap.size + 1 + 1 + 1, 0, none⟩) (.inl rfl) _
  exact ⟨⟨m, u, ps, h1, h2.other hm h6 rfl (by omega), h3⟩, h4.keep hm (by omega), h5.keep hm (by omega), ⟨v, h6.put rfl⟩, ⟨y, h7.keep hm (by omega)⟩, ⟨z, h8.keep hm (by omega)⟩, h9.into hm (fun i e => .inr (by omega))⟩

theorem parse_start (w : World) (s : Str) :
    Mid w [] ((((((w.alloc (.cells #[.int .i64 0, .int .i64 0, .slice none 0 0] 24)).alloc (.cells #[.int .i64 0] 27)).alloc (.cells #[.int .i64 0, .int .i64 0, .slice none 0 0] 24)).alloc (.cells #[.string (strOf s)] 9)).alloc (.cells #[.string ⟨#[10]⟩] 9)).alloc (.cells #[.int .i64 0] 3)) ∧
    Blk ((((((w.alloc (.cells #[.int .i64 0, .int .i64 0, .slice none 0 0] 24)).alloc (.cells #[.int .i64 0] 27)).alloc (.cells #[.int .i64 0, .int .i64 0, .slice none 0 0] 24)).alloc (.cells #[.string (strOf s)] 9)).alloc (.cells #[.string ⟨#[10]⟩] 9)).alloc (.cells #[.int .i64 0] 3)) (w.heap.size + 1 + 1 + 1) 9 #[.string (strOf s)] ∧
    Blk ((((((w.alloc (.cells #[.int .i64 0, .int .i64 0, .slice none 0 0] 24)).alloc (.cells #[.int .i64 0] 27)).alloc (.cells #[.int .i64 0, .int .i64 0, .slice none 0 0] 24)).alloc (.cells #[.string (strOf s)] 9)).alloc (.cells #[.string ⟨#[10]⟩] 9)).alloc (.cells #[.int .i64 0] 3)) (w.heap.size + 1 + 1 + 1 + 1) 9 #[.string (strOf [10])] ∧
    Blk ((((((w.alloc (.cells #[.int .i64 0, .int .i64 0, .slice none 0 0] 24)).alloc (.cells #[.int .i64 0] 27)).alloc (.cells #[.int .i64 0, .int .i64 0, .slice none 0 0] 24)).alloc (.cells #[.string (strOf s)] 9)).alloc (.cells #[.string ⟨#[10]⟩] 9)).alloc (.cells #[.int .i64 0] 3)) (w.heap.size + 1 + 1 + 1 + 1 + 1) 3 #[.int .i64 0] := by
  have a1 := Blk.new w 24 #[.int .i64 0, .int .i64 0, .slice none 0 0]
  have a2 := Blk.new (w.alloc (.cells #[.int .i64 0, .int .i64 0, .slice none 0 0] 24)) 27 #[.int .i64 0]
  have a3 := Blk.new ((w.alloc (.cells #[.int .i64 0, .int .i64 0, .slice none 0 0] 24)).alloc (.cells #[.int .i64 0] 27)) 24 #[.int .i64 0, .int .i64 0, .slice none 0 0]
  have a4 := Blk.new (((w.alloc (.cells #[.int .i64 0, .int .i64 0, .slice none 0 0] 24)).alloc (.cells #[.int .i64 0] 27)).alloc (.cells #[.int .i64 0, .int .i64 0, .slice none 0 0] 24)) 9 #[.string (strOf s)]
  have a5 := Blk.new ((((w.alloc (.cells #[.int .i64 0, .int .i64 0, .slice none 0 0] 24)).alloc (.cells #[.int .i64 0] 27)).alloc (.cells #[.int .i64 0, .int .i64 0, .slice none 0 0] 24)).alloc (.cells #[.string (strOf s)] 9)) 9 #[.string ⟨#[10]⟩]
  have a6 := Blk.new (((((w.alloc (.cells #[.int .i64 0, .int .i64 0, .slice none 0 0] 24)).alloc (.cells #[.int .i64 0] 27)).alloc (.cells #[.int .i64 0, .int .i64 0, .slice none 0 0] 24)).alloc (.cells #[.string (strOf s)] 9)).alloc (.cells #[.string ⟨#[10]⟩] 9)) 3 #[.int .i64 0]
  simp only [World.size_alloc] at a2 a3 a4 a5 a6
  refine ⟨⟨⟨m0, .slice none 0 0, [], rfl, ⟨((a3.alloc _).alloc _).alloc _, World.ownsRow_nil _ _ _ _, rfl, fun _ h => (by cases h), List.Pairwise.nil, by omega, ⟨zero_ok, zero_ok, by simp [m0]⟩, fun _ h => (by cases h)⟩, by simp [cnt, m0]⟩,
    (((((a1.alloc _).alloc _).alloc _).alloc _).alloc _), ((((a2.alloc _).alloc _).alloc _).alloc _), ⟨_, (a4.alloc _).alloc _⟩, ⟨_, a5.alloc _⟩, ⟨_, a6⟩, ?_⟩, (a4.alloc _).alloc _, a5.alloc _, a6⟩
  exact (((((((Mod.refl (fun _ => False) w).alloc _).alloc _).alloc _).alloc _).alloc _).alloc _)
theorem res_stores {w : World} {rb eb : Nat} {a b v e a' b' v' e' : Value} (hne : rb ≠ eb) (hr : Blk w rb 24 #[a, b, v]) (he : Blk w eb 27 #[e]) :
    Blk ((((w.setCell ⟨rb, 0, none⟩ a').setCell ⟨rb, 1, none⟩ b').setCell ⟨rb, 2, none⟩ v').setCell ⟨eb, 0, none⟩ e') rb 24 #[a', b', v'] ∧
    Blk ((((w.setCell ⟨rb, 0, none⟩ a').setCell ⟨rb, 1, none⟩ b').setCell ⟨rb, 2, none⟩ v').setCell ⟨eb, 0, none⟩ e') eb 27 #[e'] ∧
    Mod (fun j => j = rb ∨ j = eb) w ((((w.setCell ⟨rb, 0, none⟩ a').setCell ⟨rb, 1, none⟩ b').setCell ⟨rb, 2, none⟩ v').setCell ⟨eb, 0, none⟩ e') ∧
    ∀ n, KeepsFrom n w ((((w.setCell ⟨rb, 0, none⟩ a').setCell ⟨rb, 1, none⟩ b').setCell ⟨rb, 2, none⟩ v').setCell ⟨eb, 0, none⟩ e') := by
  have h1 := ((hr.put (i := 0) (u := a') (cs' := #[a', b, v]) rfl).put (i := 1) (u := b') (cs' := #[a', b', v]) rfl).put (i := 2) (u := v') (cs' := #[a', b', v']) rfl
  have h2 := ((he.far (p := ⟨rb, 0, none⟩) (Ne.symm hne) a').far (p := ⟨rb, 1, none⟩) (Ne.symm hne) b').far (p := ⟨rb, 2, none⟩) (Ne.symm hne) v'
  refine ⟨h1.far (p := ⟨eb, 0, none⟩) hne e', h2.put rfl, ?_, fun n => ((((KeepsOthers.setCell _ _ _).trans (KeepsOthers.setCell _ _ _)).trans (KeepsOthers.setCell _ _ _)).trans (KeepsOthers.setCell _ _ _)).from n⟩
  exact ((((Mod.refl (fun j => j = rb ∨ j = eb) w).setCell (p := ⟨rb, 0, none⟩) (.inl (.inl rfl)) _).setCell (p := ⟨rb, 1, none⟩) (.inl (.inl rfl)) _).setCell (p := ⟨rb, 2, none⟩) (.inl (.inl rfl)) _).setCell (p := ⟨eb, 0, none⟩) (.inl (.inr rfl)) _
/-- Behind the last store: the mark of the rounds' deferred calls taken, and all else as it was. -/
theorem parse_mark {w : World} {D : Nat} {o o' : Obj} (h : w.heap[D]? = some o) (hc : o.isCells = false) {g : Nat} {t : TypeId} {cs : Array Value} (hb : Blk w g t cs) : Blk (w.putObj D o') g t cs :=
  blk_turn hb (grownBy_putObj' w D o') (fun r e => by injection e with e; subst e; exact ⟨o, h, hc⟩)
theorem MfOwn.res_ {w w' : World} {B mb rb eb : Nat} {c1 c2 : Array Value} {v : Value} {ps : List (Ls × Value)} {m : Mf} (h : MfOwn w B mb v ps m) (hm : Mod (fun j => j = rb ∨ j = eb) w w') (h1 : Blk w rb 24 c1) (h2 : Blk w eb 27 c2) (n1 : mb ≠ rb) (n2 : mb ≠ eb) : MfOwn w' B mb v ps m :=
  h.keep hm (by rintro (e | e); exact n1 e; exact n2 e) (fun g t cs hb ht e => by
    rcases e with e | e
    · subst e
      unfold Blk at hb h1
      rw [h1] at hb
      injection hb with hb
      injection hb with _ e2
      subst e2
      cases ht
    · subst e
      unfold Blk at hb h2
      rw [h2] at hb
      injection hb with hb
      injection hb with _ e2
      subst e2
      cases ht)
def ParsePost (w : World) (s : Str) (e : Ending) (w' : World) : Prop :=
  Mod (fun _ => False) w w' ∧ ((parseO numP s = none ∧ e = .returned (.tuple #[.agg #[.int .i64 0, .int .i64 0, .slice none 0 0], .int .i64 181])) ∨
    ∃ m A n c, parseO numP s = some m ∧ e = .returned (.tuple #[.agg (mfV m A n c).toArray, .int .i64 0]) ∧ MfIn w' A n m)
set_option maxRecDepth 100000 in
set_option maxHeartbeats 8000000 in
theorem pParse (w : World) (s : Str) (hs : s.length ≤ 1000000) (he : Env w) : Calls Tryd.prog 19 #[.string (strOf s)] w (ParsePost w s) := by
  refine (callsIn_wide (n := 4)).1 ?_
  refine callsIn_of_wp_marks Tryd.func19 rfl trivial ?_ rfl
  simp only [Tryd.ntmps19, List.size_toArray, List.length_cons, List.length_nil, Nat.reduceAdd, Nat.reduceSub, Array.replicate_succ, Array.replicate_zero, List.push_toArray, List.append_toArray, List.nil_append, List.cons_append]
  gi_wp2_with fail
  refine ⟨trivial, (callsIn_wide.2 (pSeq _ (strOf s) ⟨#[10]⟩)).mono ?_⟩
  rintro e w1 ⟨rfl, rfl⟩
  gi_wp2_with fail
  have st := parse_start w s
  generalize hw6 : (((((w.alloc (.cells #[.int .i64 0, .int .i64 0, .slice none 0 0] 24)).alloc (.cells #[.int .i64 0] 27)).alloc (.cells #[.int .i64 0, .int .i64 0, .slice none 0 0] 24)).alloc (.cells #[.string (strOf s)] 9)).alloc (.cells #[.string ⟨#[10]⟩] 9)).alloc (.cells #[.int .i64 0] 3) = w6 at st ⊢
  obtain ⟨hmid, hsb, hpb, hvb⟩ := st
  have hz6 : w6.heap.size = w.heap.size + 6 := by rw [← hw6]; simp only [World.size_alloc]
  clear hw6
  refine wpIn_rangeC (n := 4) (by decide) (gf := 61) (lb := #[.pointer (some ⟨w.heap.size + 1 + 1 + 1 + 1, 0, none⟩), .pointer (some ⟨w.heap.size + 1 + 1 + 1, 0, none⟩), .pointer (some ⟨w.heap.size + 1 + 1 + 1 + 1 + 1, 0, none⟩)]) rfl (enters_of Tryd.func61 (by kernel_rfl) rfl) (fun _ => rfl)
    (splitIter 3 (by decide) w6 s _ _ _ (by omega) hsb hpb hvb (by omega) (by omega)) (by omega) (fun h k => h.trans k) (fun W l o hl => Keep3.put (by omega) (by omega) (by omega))
    (Mid w) (Bad w s) (Mid.turn (by omega)) (Bad.turn (by omega)) (fun pre W h => he.quiet h.old) (fun pre W v h => h.state v) hmid
    (fun x => { tmps := #[.string (strOf s), undef, .pointer (some ⟨w.heap.size, 0, none⟩), .pointer (some ⟨w.heap.size + 1, 0, none⟩), .pointer (some ⟨w.heap.size + 1 + 1, 0, none⟩), .string (strOf x), undef, undef, .string (strOf s), .func (.func 61) #[] #[.pointer (some ⟨w.heap.size + 1 + 1 + 1 + 1, 0, none⟩), .pointer (some ⟨w.heap.size + 1 + 1 + 1, 0, none⟩), .pointer (some ⟨w.heap.size + 1 + 1 + 1 + 1 + 1, 0, none⟩)], .string (strOf x), undef, undef, undef, undef, undef, undef, undef, undef, undef, undef, undef, undef, undef, undef, undef, undef, undef, undef, undef], defers := [] }) ?assign ?body ?done ?stop
  case assign =>
    intro l x W K hK
    gi_wp2_with fail
    exact hK
  case body =>
    intro l pre x W hM hG
    have hx : x ∈ cutL 10 s := hG.subset (by simp)
    have hxl := cutL_len hx
    have HM := Lib.hid (And.intro hM (And.intro hG hx))
    clear hM hG hx
    gi_wp2_with fail
    refine ⟨trivial, (CallsIn.inRound l (callsIn_wide.2 (cSplit W 32 x (by omega) (he.quiet HM.out.1.old)))).mono ?_⟩
    rintro e w2 ⟨rfl, hb2, hm2⟩
    obtain ⟨m, v, ps, hfo, hown, hcnt⟩ := HM.out.1.man
    have hple : pre.length ≤ s.length + 1 := by
      have h1 := HM.out.2.1.length_le
      have h2 := cutL_count (c := 10) s
      rw [List.length_append] at h1
      omega
    have hne : 0 < (cutL 32 x).length := List.length_pos_iff.2 (cutL_ne 32 x)
    have hfr0 : Fr w.heap.size (w.heap.size + 1 + 1) W w2 := (Fr.refl _ _ W).quiet hm2
    have hwz : w.heap.size ≤ w2.heap.size := Nat.le_trans HM.out.1.old.size hm2.size
    have hread := pRead w w2 w.heap.size (w.heap.size + 1 + 1) W.heap.size (cutL 32 x).length v ps m (cutL 32 x) (HM.out.1.old.trans hm2) he (Nat.le_refl _) hwz (hown.quiet hm2) hb2 rfl hne (fun f hf => by have := cutL_len hf; omega) (by omega)
    have HR := Lib.hid (And.intro hfo (And.intro hown (And.intro hcnt (And.intro hfr0 hread))))
    clear hfo hown hcnt hfr0 hread hb2 hm2 hne
    gi_wp2_with fail
    refine ⟨trivial, (CallsIn.inRound l (callsIn_wide.2 HR.out.2.2.2.2)).mono ?_⟩
    rintro e w3 ⟨r, m', rfl, ⟨v', ps', hown'⟩, hfr, hstep, hcnt'⟩
    have hfrW := HR.out.2.2.2.1.trans hfr
    obtain ⟨x1, hsbW⟩ := HM.out.1.sb
    obtain ⟨x2, hpbW⟩ := HM.out.1.pb
    obtain ⟨x3, hvbW⟩ := HM.out.1.vb
    have hsb3 := hsbW.fr hfrW (by omega) rfl
    have hpb3 := hpbW.fr hfrW (by omega) rfl
    have hvb3 := hvbW.fr hfrW (by omega) rfl
    have hr3 := HM.out.1.res.fr hfrW (by omega) rfl
    have he3 := HM.out.1.err.fr hfrW (by omega) rfl
    have hold := Fr.base HM.out.1.old hfrW (Nat.le_refl _) (by omega)
    have hkf : KeepsFrom w6.heap.size W w3 := hfrW.keeps HR.out.2.1.blk
    have hk3 : Keep3 (w.heap.size + 1 + 1 + 1) (w.heap.size + 1 + 1 + 1 + 1) (w.heap.size + 1 + 1 + 1 + 1 + 1) W w3 := ⟨hsb3.trans hsbW.symm, hpb3.trans hpbW.symm, hvb3.trans hvbW.symm⟩
    have hfs : foldO numP (pre ++ [x]) m0 = if r = true then some m' else none := by
      rw [foldO_snoc, HR.out.1]
      exact hstep
    cases r with
    | true =>
      have hmid' : Mid w (pre ++ [x]) w3 := ⟨⟨m', v', ps', hfs, hown', by have := HR.out.2.2.1; rw [List.length_append, List.length_singleton]; omega⟩, hr3, he3, ⟨_, hsb3⟩, ⟨_, hpb3⟩, ⟨_, hvb3⟩, hold⟩
      have HE := Lib.hid (And.intro hkf (And.intro hk3 hmid'))
      clear hkf hk3 hmid' hfs hown' hfr hstep hcnt' hfrW hsbW hpbW hvbW hsb3 hpb3 hvb3 hr3 he3 hold
      gi_wp2_with fail
      exact HE.out
    | false =>
      have hnone : parseO numP s = none := by
        unfold parseO
        rw [foldO_none HM.out.2.1 hfs]
        rfl
      obtain ⟨rc, rf⟩ := hr3.both
      obtain ⟨ec, ef⟩ := he3.both
      have ec2 : ∀ i u u' u'', (((w3.setCell ⟨w.heap.size, 0, none⟩ u).setCell ⟨w.heap.size, 1, none⟩ u').setCell ⟨w.heap.size, 2, none⟩ u'').cell? ⟨w.heap.size + 1, i, none⟩ = w3.cell? ⟨w.heap.size + 1, i, none⟩ := fun i u u' u'' => by
        rw [World.cell?_of_block (Below.heap_setCell _ ⟨w.heap.size, 2, none⟩ u'' (w.heap.size + 1) (by show w.heap.size + 1 ≠ w.heap.size; omega)), World.cell?_of_block (Below.heap_setCell _ ⟨w.heap.size, 1, none⟩ u' (w.heap.size + 1) (by show w.heap.size + 1 ≠ w.heap.size; omega)), World.cell?_of_block (Below.heap_setCell _ ⟨w.heap.size, 0, none⟩ u (w.heap.size + 1) (by show w.heap.size + 1 ≠ w.heap.size; omega))]
      have HE := Lib.hid (And.intro hkf (And.intro hnone (And.intro hr3 (And.intro he3 hold))))
      clear hkf hk3 hfs hown' hfr hstep hcnt' hfrW hsbW hpbW hvbW hsb3 hpb3 hvb3 hr3 he3 hold hnone
      gi_wp2_with fail
      obtain ⟨b1, b2, b3, b4⟩ := res_stores (a' := .int .i64 0) (b' := .int .i64 0) (v' := .slice none 0 0) (e' := .int .i64 181) (by omega) HE.out.2.2.1 HE.out.2.2.2.1
      exact ⟨HE.out.1.trans (b4 _), b1, b2, HE.out.2.2.2.2.into b3 (fun i e => .inr (by omega)), HE.out.2.1⟩
  case done =>
    rintro D xs W hD rfl hM hK
    obtain ⟨m, v, ps, hfo, hown, _⟩ := hM.man
    obtain ⟨A, c, hv⟩ := own_shape hown.row
    subst hv
    have hin := hown.in_
    have mc := hown.blk.cell
    have hWd := Nat.lt_of_lt_of_le (Array.getElem?_eq_some_iff.1 hK).1 (Nat.le_refl _)
    have HM := Lib.hid (And.intro hM (And.intro hfo (And.intro hown (And.intro hin hK))))
    clear hM hfo hown hin hK
    gi_wp2_with fail
    refine ⟨trivial, (callsIn_wide.2 (pWrite W m A ps.length c HM.out.2.2.2.1 (he.quiet HM.out.1.old))).mono ?_⟩
    rintro e w2 ⟨rfl, hm2⟩
    have hr2 := HM.out.1.res.keep hm2 (fun h => h)
    have he2 := HM.out.1.err.keep hm2 (fun h => h)
    have hK2 : w2.heap[D]? = some (.deferred (some [])) := (hm2.block D hWd (fun h => h)).trans HM.out.2.2.2.2
    have hown2 := HM.out.2.2.1.quiet hm2
    obtain ⟨rc, rf⟩ := hr2.both
    obtain ⟨ec, ef⟩ := he2.both
    have ec2 : ∀ i u u' u'', (((w2.setCell ⟨w.heap.size, 0, none⟩ u).setCell ⟨w.heap.size, 1, none⟩ u').setCell ⟨w.heap.size, 2, none⟩ u'').cell? ⟨w.heap.size + 1, i, none⟩ = w2.cell? ⟨w.heap.size + 1, i, none⟩ := fun i u u' u'' => by
      rw [World.cell?_of_block (Below.heap_setCell _ ⟨w.heap.size, 2, none⟩ u'' (w.heap.size + 1) (by show w.heap.size + 1 ≠ w.heap.size; omega)), World.cell?_of_block (Below.heap_setCell _ ⟨w.heap.size, 1, none⟩ u' (w.heap.size + 1) (by show w.heap.size + 1 ≠ w.heap.size; omega)), World.cell?_of_block (Below.heap_setCell _ ⟨w.heap.size, 0, none⟩ u (w.heap.size + 1) (by show w.heap.size + 1 ≠ w.heap.size; omega))]
    have hpo : parseO numP s = if rightB m = true ∧ writeL m = s then some m else none := by
      unfold parseO
      rw [HM.out.2.1]
      rfl
    by_cases hrb : rightB m = true
    · have hwo : writeOut m = #[.string (strOf (writeL m)), .int .i64 0] := by unfold writeOut; rw [if_pos hrb]
      rw [hwo]
      clear hwo
      by_cases hws : writeL m = s
      · rw [if_pos ⟨hrb, hws⟩] at hpo
        have hse : (strOf (writeL m)).toList = (strOf s).toList := by rw [hws]
        have mc2 := hown2.blk.cell
        have HE := Lib.hid (And.intro hr2 (And.intro he2 (And.intro hK2 (And.intro hm2 (And.intro hpo hown2)))))
        clear hr2 he2 hK2 hm2 hpo hown2 hws hrb mc
        gi_wp2_with fail
        obtain ⟨b1, b2, b3, b4⟩ := res_stores (a' := (.int .i64 m.scale)) (b' := (.int .i64 m.tick)) (v' := (.slice A ps.length c)) (e' := .int .i64 0) (by omega) HE.out.1 HE.out.2.1
        have hKF := (b4 w6.heap.size).same D _ hD HE.out.2.2.1 rfl
        refine ⟨by simp, .inl ⟨_, _, rfl, run_takeDeferred hKF, ?_⟩⟩
        have r1 := parse_mark (o' := .deferred none) hKF rfl b1
        have r2 := parse_mark (o' := .deferred none) hKF rfl b2
        have s0 := r1.cell 0
        have s1 := r1.cell 1
        have s2 := r1.cell 2
        have s3 := r2.cell 0
        have hMF : Mod (fun _ => False) w _ := ((HM.out.1.old.trans HE.out.2.2.2.1).into b3 (fun i e => .inr (by omega))).grown (grownBy_putObj' _ D (.deferred none)) (fun k hk => .inr (by injection hk with hk; omega))
        refine ⟨.tuple #[.agg #[.int .i64 m.scale, .int .i64 m.tick, .slice A ps.length c], .int .i64 0], ?_, hMF, .inr ⟨m, A, ps.length, c, HE.out.2.2.2.2.1, rfl, ?_⟩⟩
        · simp [results, Tryd.f19, go_sem, s0, s1, s2, s3]
        · exact (own_turn ((HE.out.2.2.2.2.2).res_ b3 HE.out.1 HE.out.2.1 (by omega) (by omega)) (grownBy_putObj' _ D (.deferred none)) (fun r e => by injection e with e; subst e; exact ⟨_, hKF, rfl⟩)).in_
      · rw [if_neg (fun h => hws h.2)] at hpo
        have hse : ((strOf (writeL m)).toList == (strOf s).toList) = false := by rw [strOf_toList, strOf_toList]; exact beq_eq_false_iff_ne.2 hws
        have HE := Lib.hid (And.intro hr2 (And.intro he2 (And.intro hK2 (And.intro hm2 hpo))))
        clear hr2 he2 hK2 hm2 hpo hown2 hws hrb mc
        gi_wp2_with fail
        obtain ⟨b1, b2, b3, b4⟩ := res_stores (a' := (.int .i64 0)) (b' := (.int .i64 0)) (v' := (.slice none 0 0)) (e' := .int .i64 181) (by omega) HE.out.1 HE.out.2.1
        have hKF := (b4 w6.heap.size).same D _ hD HE.out.2.2.1 rfl
        refine ⟨by simp, .inl ⟨_, _, rfl, run_takeDeferred hKF, ?_⟩⟩
        have r1 := parse_mark (o' := .deferred none) hKF rfl b1
        have r2 := parse_mark (o' := .deferred none) hKF rfl b2
        have s0 := r1.cell 0
        have s1 := r1.cell 1
        have s2 := r1.cell 2
        have s3 := r2.cell 0
        have hMF : Mod (fun _ => False) w _ := ((HM.out.1.old.trans HE.out.2.2.2.1).into b3 (fun i e => .inr (by omega))).grown (grownBy_putObj' _ D (.deferred none)) (fun k hk => .inr (by injection hk with hk; omega))
        refine ⟨.tuple #[.agg #[.int .i64 0, .int .i64 0, .slice none 0 0], .int .i64 181], ?_, hMF, .inl ⟨HE.out.2.2.2.2, rfl⟩⟩
        · simp [results, Tryd.f19, go_sem, s0, s1, s2, s3]
    · have hwo : writeOut m = #[.string (strOf []), .int .i64 181] := by unfold writeOut; rw [if_neg hrb]
      rw [hwo]
      clear hwo
      rw [if_neg (fun h => hrb h.1)] at hpo
      have HE := Lib.hid (And.intro hr2 (And.intro he2 (And.intro hK2 (And.intro hm2 hpo))))
      clear hr2 he2 hK2 hm2 hpo hown2 hrb mc
      gi_wp2_with fail
      obtain ⟨b1, b2, b3, b4⟩ := res_stores (a' := (.int .i64 0)) (b' := (.int .i64 0)) (v' := (.slice none 0 0)) (e' := .int .i64 181) (by omega) HE.out.1 HE.out.2.1
      have hKF := (b4 w6.heap.size).same D _ hD HE.out.2.2.1 rfl
      refine ⟨by simp, .inl ⟨_, _, rfl, run_takeDeferred hKF, ?_⟩⟩
      have r1 := parse_mark (o' := .deferred none) hKF rfl b1
      have r2 := parse_mark (o' := .deferred none) hKF rfl b2
      have s0 := r1.cell 0
      have s1 := r1.cell 1
      have s2 := r1.cell 2
      have s3 := r2.cell 0
      have hMF : Mod (fun _ => False) w _ := ((HM.out.1.old.trans HE.out.2.2.2.1).into b3 (fun i e => .inr (by omega))).grown (grownBy_putObj' _ D (.deferred none)) (fun k hk => .inr (by injection hk with hk; omega))
      refine ⟨.tuple #[.agg #[.int .i64 0, .int .i64 0, .slice none 0 0], .int .i64 181], ?_, hMF, .inl ⟨HE.out.2.2.2.2, rfl⟩⟩
      · simp [results, Tryd.f19, go_sem, s0, s1, s2, s3]
  case stop =>
    rintro D W hD hB hK
    have HB := Lib.hid (And.intro hB hK)
    clear hB hK
    gi_wp2_with fail
    refine ⟨by simp, .inl ⟨_, _, rfl, run_takeDeferred HB.out.2, ?_⟩⟩
    have r1 := parse_mark (o' := .deferred none) HB.out.2 rfl HB.out.1.res
    have r2 := parse_mark (o' := .deferred none) HB.out.2 rfl HB.out.1.err
    have s0 := r1.cell 0
    have s1 := r1.cell 1
    have s2 := r1.cell 2
    have s3 := r2.cell 0
    have hMF : Mod (fun _ => False) w _ := HB.out.1.old.grown (grownBy_putObj' _ D (.deferred none)) (fun k hk => .inr (by injection hk with hk; omega))
    refine ⟨.tuple #[.agg #[.int .i64 0, .int .i64 0, .slice none 0 0], .int .i64 181], ?_, hMF, .inl ⟨HB.out.1.none_, rfl⟩⟩
    simp [results, Tryd.f19, go_sem, s0, s1, s2, s3]
end Go.Proofs.YtkobngipbhjfjaaDoor
