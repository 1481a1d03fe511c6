/-
  A strings.Builder that is the first field of manifest's lines: copyCheck, WriteByte, WriteString, String, walked.
-/
import Derived.Test.YtkobngipbhjfjaaDoorMfRep
import Derived.Test.YtkobngipbhjfjaaDoorApp1
import Derived.Test.YtkobngipbhjfjaaDoorTMod
import Derived.Lib.Builder
import Derived.Lib.AppendStr
import Derived.Lib.UnsafeStr
namespace Go.Proofs.YtkobngipbhjfjaaDoor
open Go.RowKit

/-- Block b holds lines whose text is l. -/
structure SB (w : World) (B b : Nat) (p v : Value) (l : Str) : Prop where
  blk : Blk w b 51 #[p, v]
  adr : p = .pointer none ∨ p = .pointer (some ⟨b, 0, none⟩)
  row : Bytes w B v l
  low : B ≤ b
set_option maxRecDepth 100000 in
set_option maxHeartbeats 2000000 in
theorem pCopy (w : World) (B b : Nat) (p v : Value) (l : Str) (h : SB w B b p v l) : Calls Tryd.prog 58 #[.pointer (some ⟨b, 0, none⟩)] w fun e w' => e = .returned (.tuple #[]) ∧ SB w' B b (.pointer (some ⟨b, 0, none⟩)) v l ∧ Mod (· = b) w w' := by
  obtain ⟨hb, hp, hr, hlo⟩ := h
  obtain ⟨hc, hf⟩ := hb.both
  rcases hp with rfl | rfl
  · have HH := Lib.hid (And.intro hb (And.intro hr hlo))
    clear hb hr
    go_enter Tryd.func58, Tryd.ntmps58
    obtain ⟨j, hj, hjs⟩ := Option.map_eq_some_iff.1 (show (Tryd.prog.info? 49).map (·.size) = some 2 from by kernel_rfl)
    have hsh : w.shape? b = some (51, 2) := by
      have := HH.out.1
      unfold Blk at this
      simp [World.shape?, this]
    go_wp2_with fail
    rw [Lib.run_to_unsafe w ⟨b, 0, none⟩ Tryd.underlying46 Tryd.underlying92 hj (by rw [hjs]; decide) hsh (Nat.zero_lt_succ 1)]
    simp only [Result.andThen]
    rw [Oper.upon_value]
    go_wp2_with fail
    rw [run_callFunc_extern Tryd.func68 (by kernel_rfl) (by kernel_rfl) (by kernel_rfl) (e := Extern.AbiNoEscape.same) (by kernel_rfl)]
    rw [Lib.run_noEscape]
    simp only [Result.andThen]
    rw [Oper.upon_value]
    go_wp2_with fail
    rw [Lib.run_from_unsafe w ⟨b, 0, none⟩ Tryd.underlying92 Tryd.underlying46 hj hsh (by kernel_rfl)]
    simp only [Result.andThen]
    rw [Oper.upon_value]
    go_wp2_with fail
    go_end0
    have hmm : Mod (· = b) w (w.setCell ⟨b, 0, none⟩ (.pointer (some ⟨b, 0, none⟩))) := (Mod.refl (· = b) w).setCell (p := ⟨b, 0, none⟩) (.inl rfl) _
    exact ⟨rfl, ⟨HH.out.1.put rfl, .inr rfl, own_mod HH.out.2.1 hmm (fun g hg e => own_ne_blk HH.out.2.1 HH.out.1 (by decide) (by rw [hg, e])), hlo⟩, hmm⟩
  · have hb' := hb
    have HH := Lib.hid (And.intro hb (And.intro hr hlo))
    clear hb hr hb'
    obtain ⟨j, hj, hjs⟩ := Option.map_eq_some_iff.1 (show (Tryd.prog.info? 49).map (·.size) = some 2 from by kernel_rfl)
    go_enter Tryd.func58, Tryd.ntmps58
    go_wp2_with fail
    rw [Lib.run_neq_ptr_same w _ Tryd.underlying46 hj]
    go_wp2_with fail
    go_end0
    exact ⟨rfl, ⟨HH.out.1, .inr rfl, HH.out.2.1, hlo⟩, Mod.refl _ _⟩

/-- Only texts that are being written have turned. -/
def TB (t : TypeId) : Bool := t == 5 || t == 51
theorem SB.tm {w w' : World} {B b : Nat} {p v : Value} {l : Str} (h : SB w B b p v l) (hm : Mod (fun j => j = b ∨ v.ownBlock = some j) w w') : TMod B TB w w' :=
  .of_mod hm (fun k hk hs => by
    rcases hs with rfl | hs
    · exact ⟨h.low, _, _, h.blk, rfl⟩
    · obtain ⟨h1, cs, h2⟩ := own_blk h.row hs
      exact ⟨h1, _, _, h2, rfl⟩)
def SbPost (w : World) (B b : Nat) (l : Str) (w' : World) : Prop := (∃ v', SB w' B b (.pointer (some ⟨b, 0, none⟩)) v' l) ∧ TMod B TB w w'
theorem SB.store_ {w1 w2 : World} {B b : Nat} {p v v' : Value} {l l2 : Str} (h : SB w1 B b p v l) (hr2 : Bytes w2 B v' l2) (hm2 : Mod (fun j => v.ownBlock = some j) w1 w2) :
    SB (w2.setCell ⟨b, 1, none⟩ v') B b p v' l2 ∧ TMod B TB w1 (w2.setCell ⟨b, 1, none⟩ v') := by
  have hne : v.ownBlock ≠ some b := own_ne_blk h.row h.blk (by decide)
  have hb2 := h.blk.keep hm2 hne
  have hmm : Mod (· = b) w2 (w2.setCell ⟨b, 1, none⟩ v') := (Mod.refl (· = b) w2).setCell (p := ⟨b, 1, none⟩) (.inl rfl) _
  refine ⟨⟨hb2.put rfl, h.adr, own_mod hr2 hmm (fun g hg e => own_ne_blk hr2 hb2 (by decide) (by rw [hg, e])), h.low⟩, ?_⟩
  exact (h.tm (hm2.mono (fun _ h => .inr h))).trans (.of_mod hmm (fun k hk e => by subst e; exact ⟨h.low, _, _, hb2, rfl⟩))
set_option maxRecDepth 100000 in
set_option maxHeartbeats 2000000 in
theorem pWByte (w : World) (B b : Nat) (p v : Value) (l : Str) (c : UInt8) (h : SB w B b p v l) (hl : l.length < 1048576) (hB : B ≤ w.heap.size) : Calls Tryd.prog 44 #[.pointer (some ⟨b, 0, none⟩), .int .u8 (c.toNat : Int)] w fun e w' => e = .returned .nilIface ∧ SbPost w B b (l ++ [c]) w' := by
  have hcu := c.toNat_lt
  have HW := Lib.hid h
  clear h
  go_enter Tryd.func44, Tryd.ntmps44
  go_wp2_with fail
  refine (pCopy _ B b p v l HW.out).mono ?_
  rintro e w1 ⟨rfl, h1, hm1⟩
  have c1 := (h1.blk.cell 1)
  have f1 := h1.blk.frozen
  have hB1 : B ≤ w1.heap.size := Nat.le_trans hB hm1.size
  have HC := Lib.hid (And.intro h1 hm1)
  clear h1 hm1
  go_wp2_with (at_builtin; refine wpList_app_u8 _ rfl _ _ rfl B v l c rfl rfl HC.out.1.row hB1 hl ?_; intro v' w2 hr2 hm2 hall2 hk2; refine Hid.out ?_)
  refine Lib.hid ?_
  have hne : v.ownBlock ≠ some b := own_ne_blk HC.out.1.row HC.out.1.blk (by decide)
  have hb2 := HC.out.1.blk.keep hm2 hne
  obtain ⟨A', n', cp', rfl⟩ := own_form hr2
  have f2 := hb2.frozen
  have c2 := hb2.cell
  have HD := Lib.hid (And.intro hr2 hm2)
  clear hr2 hm2 hb2 hne c1 f1 hall2 hk2
  go_wp2_with fail
  go_ret
  have he := HC.out.1.store_ HD.out.1 HD.out.2
  exact ⟨rfl, ⟨_, he.1⟩, (HW.out.tm (HC.out.2.mono (fun _ h => .inl h))).trans he.2⟩
theorem u8s_str (t : Str) : Lib.strCells (strOf t) = u8s t := by
  unfold Lib.strCells u8s
  rw [strOf_data]
set_option maxRecDepth 100000 in
set_option maxHeartbeats 2000000 in
theorem pWStr (w : World) (B b : Nat) (p v : Value) (l t : Str) (h : SB w B b p v l) (hl : l.length + t.length ≤ 1048576) (hB : B ≤ w.heap.size) : Calls Tryd.prog 45 #[.pointer (some ⟨b, 0, none⟩), .string (strOf t)] w fun e w' => e = .returned (.tuple #[.int .i64 (t.length : Int), .nilIface]) ∧ SbPost w B b (l ++ t) w' := by
  obtain ⟨i0, hi0, hz0, hz1, hz2⟩ := info_parts u8_info
  have hts := strOf_size t
  have HW := Lib.hid h
  clear h
  go_enter Tryd.func45, Tryd.ntmps45
  go_wp2_with fail
  refine (pCopy _ B b p v l HW.out).mono ?_
  rintro e w1 ⟨rfl, h1, hm1⟩
  have c1 := (h1.blk.cell 1)
  have f1 := h1.blk.frozen
  have hB1 : B ≤ w1.heap.size := Nat.le_trans hB hm1.size
  have HC := Lib.hid (And.intro h1 hm1)
  clear h1 hm1
  go_wp2_with (at_builtin; refine Lib.wpList_append_own_string _ rfl _ _ 47 9 rfl B 5 i0 Tryd.underlying47 Tryd.underlying9 hi0 hz0 hz1 hz2 v l.length (u8s l) rfl HC.out.1.row (strOf t) rfl (by unfold maxLen; rw [hts]; omega) (by rw [hts]; omega) hB1 ?_; intro v' w2 hr2 hm2 _; refine Hid.out ?_)
  refine Lib.hid ?_
  have hr2' : Bytes w2 B v' (l ++ t) := by
    unfold Bytes
    have e2 : u8s (l ++ t) = u8s l ++ u8s t := by simp [u8s]
    rw [List.length_append, e2, ← u8s_str, ← hts]
    exact hr2
  have hM2 : Mod (fun j => v.ownBlock = some j) w1 w2 := (Mod.refl _ w1).grown hm2 (fun k hk => .inl hk)
  have hne : v.ownBlock ≠ some b := own_ne_blk HC.out.1.row HC.out.1.blk (by decide)
  have hb2 := HC.out.1.blk.keep hM2 hne
  obtain ⟨A', n', cp', rfl⟩ := own_form hr2'
  have f2 := hb2.frozen
  have c2 := hb2.cell
  have HD := Lib.hid (And.intro hr2' hM2)
  clear hr2 hm2 hr2' hM2 hb2 hne c1 f1
  go_wp2_with fail
  go_ret2
  have he := HC.out.1.store_ HD.out.1 HD.out.2
  exact ⟨rfl, ⟨_, he.1⟩, (HW.out.tm (HC.out.2.mono (fun _ h => .inl h))).trans he.2⟩
set_option maxRecDepth 100000 in
set_option maxHeartbeats 2000000 in
theorem pString (w : World) (B b : Nat) (p v : Value) (l : Str) (h : SB w B b p v l) (h0 : l ≠ []) : Calls Tryd.prog 27 #[.pointer (some ⟨b, 0, none⟩)] w fun e w' => e = .returned (.string (strOf l)) ∧ Below B w w' := by
  have hl0 : l.length ≠ 0 := by simpa using h0
  obtain ⟨hb, hp, hown, hlo⟩ := h
  obtain ⟨g, cap, cur, rfl, hbg, hg, hnc, hcm, hcs, htake⟩ : ∃ g cap cur, v = .slice (some ⟨g, 0, none⟩) l.length cap ∧ B ≤ g ∧ w.heap[g]? = some (.cells cur 5 (0, 0)) ∧ l.length ≤ cap ∧ cap ≤ maxLen ∧ cur.size = cap * 1 ∧ cur.toList.take (l.length * 1) = u8s l := by
    rcases hown.2 with ⟨_, hz⟩ | ⟨g, cap, cur, hv, r⟩
    · exact absurd hz hl0
    · exact ⟨g, cap, cur, hv, r⟩
  have c1 : w.drew.cell? ⟨b, 1, none⟩ = some (.slice (some ⟨g, 0, none⟩) l.length cap) := hb.drew.cell 1
  have hSD : (Builtin.unsafeSliceData_ #[47] 79 #[.slice (some ⟨g, 0, none⟩) l.length cap]).run Tryd.prog w.drew = .ok (.pointer (some ⟨g, 0, none⟩)) w.drew :=
    Lib.run_unsafeSliceData_row _ _ _ _ _ _ (by omega)
  have hUS : (Builtin.unsafeString_ #[79, 3] 9 #[.pointer (some ⟨g, 0, none⟩), .int .i64 l.length]).run Tryd.prog w.drew = .ok (.string (strOf l)) (w.drew.freeze ⟨g, 0, none⟩ l.length) := by
    refine Lib.run_unsafeString_row w.drew 79 3 9 5 Tryd.underlying79 (by kernel_rfl) g cur.size (by have hg' : w.drew.heap[g]? = some (.cells cur 5 (0, 0)) := hg; simp [World.shape?, hg']) l h0 (by omega) (by unfold maxLen at hcm; omega) ?_
    intro j x hx
    have := hown.cells (g := g) rfl j (.int .u8 x.toNat) (by simp [u8s, hx])
    exact this
  have HH := Lib.hid (And.intro hbg hg)
  clear hb hown hnc hcs htake
  go_enter Tryd.func27, Tryd.ntmps27
  go_wp2_with fail
  go_region
  all_goals (go_wp2; go_ret; exact ⟨rfl, Lib.below_freeze (Below.drew (Below.refl B w)) (p := ⟨g, 0, none⟩) HH.out.1 _⟩)
end Go.Proofs.YtkobngipbhjfjaaDoor
