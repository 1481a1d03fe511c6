/-
  The reference's decoder of a code: End.
-/
import Derived.Test.YteppnjgfebcmjaaGreatM17
import Derived.Test.YteppnjgfebcmjaaGreatM10
import Derived.Test.YteppnjgfebcmjaaGreatM15
import Derived.Laws.Tables
import Derived.Laws.Rows
import Derived.StillTailTactics
import Derived.Great.BuildSlice
namespace Go.Proofs.YteppnjgfebcmjaaGreat
open Go.RowKit

set_option maxRecDepth 100000 in
set_option maxHeartbeats 4000000 in
theorem fEnd (w : World) (g : Nat) (P : Nat → Prop) (code : List UInt8) (rest wide : Nat) (h : RCode w g P code rest wide) : Calls Tryz.prog 34 #[.pointer (some ⟨g, 0, none⟩)] w fun e w' => (∃ er : Int, e = .returned (.int .i64 er) ∧ (code = [] ∧ rest = 0 ∧ er = 0 ∨ ¬ (code = [] ∧ rest = 0) ∧ er = 41)) ∧ Mod (fun _ => False) w w' := by
  obtain ⟨A, n, cp, l, i, hb, hin, hcode, hin2, hP, hr, hw, hn⟩ := h
  have hbc := hb.drew.cell
  have hl := hin.1
  have HH := Lib.hid hcode
  clear hb hin hP hcode
  by_cases hi : i = n
  · subst hi
    have d1 : ((i : Int) != (i : Int)) = false := by simp
    have hc : code = [] := by rw [HH.out]; exact List.drop_eq_nil_of_le (by omega)
    have HC := Lib.hid hc
    clear hc
    by_cases h0 : rest = 0
    · subst h0
      go_enter Tryz.func34, Tryz.ntmps34
      go_upto_region 1 with (fail)
      refine wp_region_planS [] [] (0 :: 1 :: 2 :: 3 :: 4 :: 5 :: 6 :: 7 :: 8 :: 9 :: 10 :: 11 :: 12 :: 13 :: 14 :: 15 :: 16 :: []) (fun _ => True) (by kernel_rfl) (by kernel_rfl) (fun _ _ _ d _ h => by cases d <;> exact h) trivial ?_
      iterate 17 (refine planS_still rfl rfl (fun K hK => ?_); go_simp; refine hK _ ?_; clear hK K)
      refine planS_done ?_
      go_wp2_with fail
      go_ret
      exact ⟨⟨0, rfl, .inl ⟨HC.out, trivial, rfl⟩⟩, (Mod.refl _ w).drew⟩
    · have d2 : ((rest : Int) != 0) = true := by simp; omega
      go_enter Tryz.func34, Tryz.ntmps34
      go_upto_region 1 with (fail)
      refine wp_region_planS [] [] (0 :: 1 :: 2 :: 3 :: 4 :: 5 :: 6 :: 7 :: 8 :: 9 :: 10 :: 11 :: 12 :: 13 :: 14 :: 15 :: 16 :: []) (fun _ => True) (by kernel_rfl) (by kernel_rfl) (fun _ _ _ d _ h => by cases d <;> exact h) trivial ?_
      iterate 17 (refine planS_still rfl rfl (fun K hK => ?_); go_simp; refine hK _ ?_; clear hK K)
      refine planS_done ?_
      go_wp2_with fail
      go_ret
      exact ⟨⟨41, rfl, .inr ⟨fun h => h0 h.2, rfl⟩⟩, (Mod.refl _ w).drew⟩
  · have d1 : ((i : Int) != (n : Int)) = true := by simp; omega
    have hc : code ≠ [] := by
      rw [HH.out]
      intro e
      have := congrArg List.length e
      simp at this
      omega
    have HC := Lib.hid hc
    clear hc
    go_enter Tryz.func34, Tryz.ntmps34
    go_upto_region 1 with (fail)
    refine wp_region_planS [] [] (0 :: 1 :: 2 :: 3 :: 4 :: 5 :: 6 :: 7 :: 8 :: 9 :: 10 :: 11 :: 12 :: 13 :: 14 :: 15 :: 16 :: []) (fun _ => True) (by kernel_rfl) (by kernel_rfl) (fun _ _ _ d _ h => by cases d <;> exact h) trivial ?_
    iterate 17 (refine planS_still rfl rfl (fun K hK => ?_); go_simp; refine hK _ ?_; clear hK K)
    refine planS_done ?_
    go_wp2_with fail
    go_ret
    exact ⟨⟨41, rfl, .inr ⟨fun h => HC.out h.1, rfl⟩⟩, (Mod.refl _ w).drew⟩
end Go.Proofs.YteppnjgfebcmjaaGreat

/-
  The reference's book: place, get.
-/
namespace Go.Proofs.YteppnjgfebcmjaaGreat
open Go.RowKit

def n64s (l : List Nat) : List Value := l.map fun x => .int .i64 ((x : Nat) : Int)
def RSAt (w : World) (bk g : Nat) (P : Nat → Prop) (s : St) : Prop := Blk w bk 122 (n64s s.ch).toArray ∧ s.ch.length = 592 ∧ (∀ i, s.ch.getD i 0 ≤ 65535) ∧ RCode w g P s.code s.rest s.wide
theorem RSAt.mod {w w' : World} {S P : Nat → Prop} {bk g : Nat} {s : St} (h : RSAt w bk g P s) (hm : Mod S w w') (hb : ¬ S bk) (hg : ¬ S g) (hP : ∀ j, P j → ¬ S j) : RSAt w' bk g P s := ⟨h.1.keep hm hb, h.2.1, h.2.2.1, h.2.2.2.mod hm hg hP⟩
def FSPost (w : World) (bk g : Nat) (P : Nat → Prop) (r : Option (Nat × St)) (e : Ending) (w' : World) : Prop :=
  (r = none ∧ ∃ er : Int, (er == 0) = false ∧ e = .returned (.tuple #[.int .i64 0, .int .i64 er]) ∧ Mod (fun j => j = g ∨ j = bk) w w') ∨
  ∃ v s', r = some (v, s') ∧ e = .returned (.tuple #[.int .i64 ((v : Nat) : Int), .int .i64 0]) ∧ RSAt w' bk g P s' ∧ Mod (fun j => j = g ∨ j = bk) w w'
set_option maxRecDepth 100000 in
theorem fPlace (w : World) (i ahead : Nat) (hi : i < 4) (ha : ahead < 1048576) : Calls Tryz.prog 143 #[.int .i64 (i : Int), .int .i64 (ahead : Int)] w fun e w' => e = .returned (.int .i64 ((atIdx i ahead : Nat) : Int)) ∧ w = w' := by
  have h4 : i = 0 ∨ i = 1 ∨ i = 2 ∨ i = 3 := by omega
  clear hi
  rcases h4 with rfl | rfl | rfl | rfl
  · have e1 : ((atIdx 0 ahead : Nat) : Int) = 20 + (ahead : Int) := by unfold atIdx; omega
    have HE := Lib.hid e1
    clear e1
    go_enter Tryz.func143, Tryz.ntmps143
    go_wp2_with fail
    go_ret
    exact ⟨by rw [HE.out]; rfl, rfl⟩
  · have e1 : ((atIdx 1 ahead : Nat) : Int) = 21 + (ahead : Int) := by unfold atIdx; omega
    have HE := Lib.hid e1
    clear e1
    go_enter Tryz.func143, Tryz.ntmps143
    go_wp2_with fail
    go_ret
    exact ⟨by rw [HE.out]; rfl, rfl⟩
  · have e1 : ((atIdx 2 ahead : Nat) : Int) = 23 + (ahead : Int) := by unfold atIdx; omega
    have HE := Lib.hid e1
    clear e1
    go_enter Tryz.func143, Tryz.ntmps143
    go_wp2_with fail
    go_ret
    exact ⟨by rw [HE.out]; rfl, rfl⟩
  · have e1 : ((atIdx 3 ahead : Nat) : Int) = 27 + (ahead : Int) := by unfold atIdx; omega
    have HE := Lib.hid e1
    clear e1
    go_enter Tryz.func143, Tryz.ntmps143
    go_wp2_with fail
    go_ret
    exact ⟨by rw [HE.out]; rfl, rfl⟩
set_option maxRecDepth 100000 in
theorem fPlace4 (w : World) (i ahead : Nat) (hi : 4 ≤ i) (h2 : i < 1048576) : Calls Tryz.prog 143 #[.int .i64 (i : Int), .int .i64 (ahead : Int)] w fun e w' => e = .returned (.int .i64 (-1)) ∧ w = w' := by
  have d1 : decide ((4 : Int) ≤ (i : Int)) = true := decide_eq_true (by omega)
  go_enter Tryz.func143, Tryz.ntmps143
  go_wp2_with fail
  go_ret
  exact ⟨rfl, rfl⟩
set_option maxRecDepth 100000 in
set_option maxHeartbeats 4000000 in
theorem fBookEven (w : World) (bk g : Nat) (P : Nat → Prop) (hPg : ¬ P g) (hgb : g ≠ bk) (s : St) (t : Int) (h : RSAt w bk g P s) :
    Calls Tryz.prog 142 #[.pointer (some ⟨bk, 0, none⟩), .pointer (some ⟨g, 0, none⟩), .int .i64 t, .int .i64 (-1)] w (FSPost w bk g P (seven s)) := by
  have H := Lib.hid h
  clear h
  go_enter Tryz.func142, Tryz.ntmps142
  go_wp2_with fail
  refine (fGet _ g P hPg s.code s.rest s.wide 1024 (by decide) H.out.2.2.2).mono ?_
  rintro e w1 (⟨hr, er, her, rfl, hm⟩ | ⟨bit, code1, rest1, wide1, hr, hbit, rfl, hc1, hm⟩)
  · have HR := Lib.hid (And.intro hr (And.intro her hm))
    clear hr her hm
    go_wp2_with fail
    go_ret2
    exact .inl ⟨by unfold seven; rw [HR.out.1]; rfl, er, HR.out.2.1, rfl, HR.out.2.2.mono (fun _ h => h.elim)⟩
  · have HR := Lib.hid (And.intro hr (And.intro hc1 hm))
    clear hr hc1 hm hbit
    go_wp2_with fail
    go_ret2
    exact .inr ⟨bit, ⟨s.ch, code1, rest1, wide1⟩, by unfold seven; rw [HR.out.1]; rfl, rfl, ⟨H.out.1.keep HR.out.2.2 (fun e => hgb e.symm), H.out.2.1, H.out.2.2.1, HR.out.2.1⟩, HR.out.2.2.mono (fun _ h => .inl h)⟩
theorem cnext_le (c bit : Nat) (h : chanceOk c = true) : cnext c bit ≤ 65535 := by
  have h2 := cnext_ok c bit h
  unfold chanceOk at h2
  rw [decide_eq_true_eq] at h2
  omega
set_option maxRecDepth 100000 in
set_option maxHeartbeats 4000000 in
theorem fBookGet (w : World) (bk g : Nat) (P : Nat → Prop) (hPg : ¬ P g) (hgb : g ≠ bk) (s : St) (t i : Nat) (ht : t < 16) (hi : i < 37) (hPb : ¬ P bk) (h : RSAt w bk g P s) :
    Calls Tryz.prog 142 #[.pointer (some ⟨bk, 0, none⟩), .pointer (some ⟨g, 0, none⟩), .int .i64 (t : Int), .int .i64 (i : Int)] w (FSPost w bk g P (sget s (t * 37 + i))) := by
  obtain ⟨ch, code, rest, wide⟩ := s
  obtain ⟨hb, hlen, hch, hc⟩ := h
  dsimp only at hb hlen hch hc
  obtain ⟨x, hx⟩ : ∃ x, x = ch.getD (t * 37 + i) 0 := ⟨_, rfl⟩
  have hxl := hch (t * 37 + i)
  rw [← hx] at hxl
  have hxc : (n64s ch).toArray[t * 37 + i]? = some (.int .i64 ((x : Nat) : Int)) := by
    rw [hx]
    simp [n64s, List.getD_eq_getElem?_getD, show t * 37 + i < ch.length by omega]
  have q0 : w.cell? ⟨bk, t * 37 + i, none⟩ = some (.int .i64 ((x : Nat) : Int)) := (hb.cell _).trans hxc
  have d0 : decide ((i : Int) < 0) = false := decide_eq_false (by omega)
  have p1 : (t : Int) < 16 := by omega
  have p2 : (i : Int) < 37 := by omega
  have H := Lib.hid (And.intro hb (And.intro hlen (And.intro hch (And.intro hc (And.intro hx hxc)))))
  clear hb hch hc hx hxc
  go_enter Tryz.func142, Tryz.ntmps142
  go_wp2_with fail
  refine (fGet _ g P hPg code rest wide x hxl H.out.2.2.2.1).mono ?_
  rintro e w1 (⟨hr, er, her, rfl, hm⟩ | ⟨bit, code1, rest1, wide1, hr, hbit, rfl, hc1, hm⟩)
  · have her2 : (er != 0) = true := by simp [bne, her]
    have HR := Lib.hid (And.intro hr (And.intro her hm))
    clear hr hm q0
    go_wp2_with fail
    go_ret2
    exact .inl ⟨by unfold sget; dsimp only; rw [← H.out.2.2.2.2.1, HR.out.1]; rfl, er, HR.out.2.1, rfl, HR.out.2.2.mono (fun _ h => h.elim)⟩
  · have hok := cget_ok hr
    have hb1 := H.out.1.keep hm (fun e => hgb e.symm)
    have hb1d := hb1.drew
    have q1 : w1.drew.cell? ⟨bk, t * 37 + i, none⟩ = some (.int .i64 ((x : Nat) : Int)) := (hb1d.cell _).trans H.out.2.2.2.2.2
    have gf := hb1d.frozen (t * 37 + i)
    have hput := hb1d.put (i := t * 37 + i) (u := .int .i64 ((cnext x bit : Nat) : Int)) (cs' := (n64s (ch.set (t * 37 + i) (cnext x bit))).toArray) (by simp [n64s, List.map_set])
    have hmS : Mod (fun j => j = g ∨ j = bk) w (w1.drew.setCell ⟨bk, t * 37 + i, none⟩ (.int .i64 ((cnext x bit : Nat) : Int))) := ((hm.mono (fun _ h => .inl h)).drew).setCell (p := ⟨bk, t * 37 + i, none⟩) (.inl (.inr rfl)) _
    have hc2 : RCode (w1.drew.setCell ⟨bk, t * 37 + i, none⟩ (.int .i64 ((cnext x bit : Nat) : Int))) g P code1 rest1 wide1 := (hc1.mod ((Mod.refl (fun _ => False) w1).drew) (fun h => h) (fun _ _ h => h)).mod ((Mod.refl (· = bk) w1.drew).setCell (p := ⟨bk, t * 37 + i, none⟩) (.inl rfl) _) hgb (fun j hj e => hPb (e ▸ hj))
    have hres : sget ⟨ch, code, rest, wide⟩ (t * 37 + i) = some (bit, ⟨ch.set (t * 37 + i) (cnext x bit), code1, rest1, wide1⟩) := by
      unfold sget
      dsimp only
      rw [← H.out.2.2.2.2.1, hr]
      rfl
    have hle : ∀ j, (ch.set (t * 37 + i) (cnext x bit)).getD j 0 ≤ 65535 := fun j => by
      rw [List.getD_eq_getElem?_getD, List.getElem?_set]
      split
      · split
        · exact cnext_le x bit hok
        · simp
      · rw [← List.getD_eq_getElem?_getD]; exact H.out.2.2.1 j
    have N0 := Lib.hid fun w => fNext w x bit hbit hok
    have HR := Lib.hid (And.intro hres (And.intro hput (And.intro hmS (And.intro hc2 hle))))
    clear hr hm hok hb1 hb1d hput hmS hc2 hres hle hc1 q0
    go_upto_region 5 with (fail)
    refine wp_region_planS [17] [] (0 :: 1 :: 2 :: 3 :: 4 :: 5 :: 6 :: 7 :: 8 :: 9 :: 10 :: 11 :: 12 :: 13 :: 14 :: 15 :: 16 :: 17 :: []) (fun _ => True) (by kernel_rfl) (by kernel_rfl) (fun _ _ _ d _ h => by cases d <;> exact h) trivial ?_
    iterate 12 (refine planS_still rfl rfl (fun K hK => ?_); go_simp; refine hK _ ?_; clear hK K)
    refine planS_still rfl rfl (fun K hK => ?_)
    go_simp
    refine ⟨_, (N0.out _).mono (fun _ _ ⟨a, b⟩ => ⟨a, b.symm⟩), hK _ ?_⟩
    clear hK K
    iterate 4 (refine planS_still rfl rfl (fun K hK => ?_); go_simp; refine hK _ ?_; clear hK K)
    refine planS_loud rfl rfl (fun K hK => ?_)
    go_simp
    refine hK _ _ trivial ?_
    clear hK K
    refine planS_done ?_
    go_wp2_with fail
    go_ret2
    exact .inr ⟨bit, _, HR.out.1, rfl, ⟨HR.out.2.1, by rw [List.length_set]; exact H.out.2.1, HR.out.2.2.2.2, HR.out.2.2.2.1⟩, HR.out.2.2.1⟩
end Go.Proofs.YteppnjgfebcmjaaGreat

/-
  Whole rows: an aggregate stored into a part of a block; a whole block loaded.
-/
namespace Go.Proofs.YteppnjgfebcmjaaGreat
open Go.RowKit

section
variable {P : Program}
theorem run_storeCells_part (g : Nat) (t : TypeId) (off : Nat) : ∀ (vs : List Value) (i : Nat) (cur : List Value) (w : World), Blk w g t cur.toArray → off + i + vs.length ≤ cur.length → (∀ v ∈ vs, v.oneCell' = true) →
    ∃ w', (storeCells ⟨g, off, none⟩ vs i).run P w = .ok () w' ∧ Blk w' g t (splice cur (off + i) vs).toArray ∧ Mod (· = g) w w'
  | [], i, cur, w, hb, hl, h1 => ⟨w, rfl, by
      have : splice cur (off + i) [] = cur := by simp [splice]
      rw [this]; exact hb, Mod.refl _ _⟩
  | v :: rest, i, cur, w, hb, hl, h1 => by
    have hi : off + i < cur.length := by simp at hl; omega
    have hcell : w.cell? ⟨g, off + i, none⟩ = some cur[off + i] := by rw [hb.cell]; simp [hi]
    have hfro := hb.frozen (off + i)
    have hst : (store ((⟨g, off, none⟩ : Addr).add i) v).run P w = .ok () (w.setCell ⟨g, off + i, none⟩ v) := by
      rw [addr_add', run_store P w _ v _ (h1 v (by simp)), hcell]
      simp [hfro]
    have hb1 : Blk (w.setCell ⟨g, off + i, none⟩ v) g t (cur.set (off + i) v).toArray := hb.put (by simp)
    obtain ⟨w', e, hb2, hm⟩ := run_storeCells_part g t off rest (i + 1) (cur.set (off + i) v) _ hb1 (by simp at hl ⊢; omega) (fun x hx => h1 x (by simp [hx]))
    refine ⟨w', ?_, ?_, (((Mod.refl (· = g) w).setCell (p := ⟨g, off + i, none⟩) (.inl rfl) v)).trans hm⟩
    · simp only [storeCells, Sem.run_bind, hst, Result.andThen_ok, e]
    · have e2 : splice (cur.set (off + i) v) (off + (i + 1)) rest = splice cur (off + i) (v :: rest) := by
        unfold splice
        have a1 : (cur.set (off + i) v).take (off + (i + 1)) = cur.take (off + i) ++ [v] := by
          rw [show off + (i + 1) = (off + i) + 1 by omega, List.take_succ_eq_append_getElem (by simp; exact hi)]
          rw [List.take_set_of_le (Nat.le_refl _)]
          simp
        have a2 : (cur.set (off + i) v).drop (off + (i + 1) + rest.length) = cur.drop (off + i + (v :: rest).length) := by
          rw [List.drop_set_of_lt (by omega)]
          congr 1
          simp; omega
        rw [a1, a2]
        simp
      rwa [e2] at hb2

theorem run_storeVar_part (w : World) (g : Nat) (t ty : TypeId) (off : Nat) (cur cells : List Value) (hb : Blk w g t cur.toArray) (hi : (P.info? ty).map (·.size) = some cells.length) (hl : off + cells.length ≤ cur.length) (h1 : ∀ v ∈ cells, v.oneCell' = true) :
    ∃ w', (storeVar ty ⟨g, off, none⟩ (.agg cells.toArray)).run P w = .ok () w' ∧ Blk w' g t (splice cur off cells).toArray ∧ Mod (· = g) w w' := by
  obtain ⟨w', e, h2, h3⟩ := run_storeCells_part (P := P) g t off cells 0 cur w hb (by omega) h1
  refine ⟨w', ?_, by rwa [Nat.add_zero] at h2, h3⟩
  cases hq : P.info? ty with
  | none => simp [hq] at hi
  | some i =>
    have hs : cells.length = i.size := by simp [hq] at hi; omega
    simp [storeVar, sizeOf, typeInfo, hq, Value.cells, hs, e]
theorem wp_store_part {o : Oper} {a : Act} {w : World} {K : Act → World → Prop} {Q : Exit → Act → World → Prop} (ty : TypeId) (x y : Operand) (ho : o.op = .store ty x y)
    (g off : Nat) (cells : List Value) (hx : a.eval x = .pointer (some ⟨g, off, none⟩)) (hy : a.eval y = .agg cells.toArray)
    (t : TypeId) (cur : List Value) (hb : Blk w g t cur.toArray) (hi : (P.info? ty).map (·.size) = some cells.length) (hl : off + cells.length ≤ cur.length) (h1 : ∀ v ∈ cells, v.oneCell' = true)
    (h : ∀ w', Blk w' g t (splice cur off cells).toArray → Mod (· = g) w w' → K (a.put o.dst undef) w') : o.wp P a w K Q := by
  obtain ⟨w', e, h2, h3⟩ := run_storeVar_part (P := P) w g t ty off cur cells hb hi hl h1
  unfold Oper.wp execOp
  simp only [ho, hx, hy, Instr.storeAt, Instr.sureAddr, Sem.run_bind, Sem.run_pure, Result.andThen_ok, e]
  exact h w' h2 h3
theorem wpList_store_part {ops : Array Oper} {rest : List Oper} {o : Oper} {a : Act} {w : World} {Q : Exit → Act → World → Prop} (hgd : o.guard = none) (ty : TypeId) (x y : Operand) (ho : o.op = .store ty x y)
    (g off : Nat) (cells : List Value) (hx : a.eval x = .pointer (some ⟨g, off, none⟩)) (hy : a.eval y = .agg cells.toArray)
    (t : TypeId) (cur : List Value) (hb : Blk w g t cur.toArray) (hi : (P.info? ty).map (·.size) = some cells.length) (hl : off + cells.length ≤ cur.length) (h1 : ∀ v ∈ cells, v.oneCell' = true)
    (h : ∀ w', Blk w' g t (splice cur off cells).toArray → Mod (· = g) w w' → wpList P ops Q rest (a.put o.dst undef) w') : wpList P ops Q (o :: rest) a w :=
  wpList_plain hgd fun _ hK => wp_store_part ty x y ho g off cells hx hy t cur hb hi hl h1 (fun w' a b => hK _ _ (h w' a b))
theorem step_store_part {ops : Array Oper} {o : Oper} {a : Act} {w : World} {K : Act → World → Prop} {Q : Exit → Act → World → Prop} {E : Prop} (hgd : o.guard = none) (ty : TypeId) (x y : Operand) (ho : o.op = .store ty x y)
    (g off : Nat) (cells : List Value) (hx : a.eval x = .pointer (some ⟨g, off, none⟩)) (hy : a.eval y = .agg cells.toArray)
    (t : TypeId) (cur : List Value) (hb : Blk w g t cur.toArray) (hi : (P.info? ty).map (·.size) = some cells.length) (hl : off + cells.length ≤ cur.length) (h1 : ∀ v ∈ cells, v.oneCell' = true)
    (h : ∀ w', Blk w' g t (splice cur off cells).toArray → Mod (· = g) w w' → K (a.put o.dst undef) w') :
    if Region.wanted o (yielded ops a.tmps) = true then Oper.wp P o a w K Q else E := by
  have hw : Region.wanted o (yielded ops a.tmps) = true := by simp [Region.wanted, hgd]
  rw [if_pos hw]
  exact wp_store_part ty x y ho g off cells hx hy t cur hb hi hl h1 h
theorem step_load_row {ops : Array Oper} {o : Oper} {a : Act} {w : World} {K : Act → World → Prop} {Q : Exit → Act → World → Prop} {E : Prop} (hgd : o.guard = none) (ty : TypeId) (x : Operand) (ho : o.op = .load ty x)
    (g : Nat) (hx : a.eval x = .pointer (some ⟨g, 0, none⟩)) (t : TypeId) (cs : Array Value) (d : TypeDesc) (hb : Blk w g t cs)
    (hu : P.underlying ty = some d) (hd : (match d with | .struct _ | .array _ _ => true | _ => false) = true) (hi : (P.info? ty).map (·.size) = some cs.size)
    (h : K (a.put o.dst (.agg cs)) w) :
    if Region.wanted o (yielded ops a.tmps) = true then Oper.wp P o a w K Q else E := by
  have hw : Region.wanted o (yielded ops a.tmps) = true := by simp [Region.wanted, hgd]
  rw [if_pos hw]
  exact wp_load_row ty x ho g hx t cs (0, 0) d hb hu hd hi h
theorem wpStill_load_row {ops : Array Oper} {w : World} {o : Oper} {rest : List Oper} {a : Act} {Q : Act → Prop} (hgd : o.guard = none) (ty : TypeId) (x : Operand) (ho : o.op = .load ty x)
    (g : Nat) (hx : a.eval x = .pointer (some ⟨g, 0, none⟩)) (t : TypeId) (cs : Array Value) (d : TypeDesc) (hb : Blk w g t cs)
    (hu : P.underlying ty = some d) (hd : (match d with | .struct _ | .array _ _ => true | _ => false) = true) (hi : (P.info? ty).map (·.size) = some cs.size)
    (h : wpStill P ops w Q rest (a.put o.dst (.agg cs))) : wpStill P ops w Q (o :: rest) a := by
  refine wpStill_step (fun K hK => ?_)
  have hw : Region.wanted o (yielded ops a.tmps) = true := by simp [Region.wanted, hgd]
  rw [if_pos hw]
  unfold Oper.still execOp
  simp only [ho, hx, Instr.loadAt, Instr.sureAddr, Sem.run_bind, Sem.run_pure, Result.andThen_ok, run_loadVar_row w g t ty cs (0, 0) d hb hu hd hi]
  exact ⟨rfl, hK _ h⟩
end
end Go.Proofs.YteppnjgfebcmjaaGreat

/-
  book.New.
-/
namespace Go.Proofs.YteppnjgfebcmjaaGreat
open Go.RowKit

def fillC (k : Nat) : List Nat := List.replicate k 1024 ++ List.replicate (37 - k) 0
theorem fillC_length (k : Nat) (h : k ≤ 37) : (fillC k).length = 37 := by simp [fillC]; omega
theorem fillC_set (k : Nat) (h : k < 37) : (u16s (fillC k)).set k (.int .u16 1024) = u16s (fillC (k + 1)) := by
  apply List.ext_getElem
  · simp [u16s, fillC]; omega
  · intro i h1 h2
    have hi : i < 37 := by simp [u16s, fillC] at h2; omega
    rw [List.getElem_set]
    by_cases e : k = i
    · subst e
      simp [u16s, fillC]
    · rw [if_neg e]
      simp only [u16s, List.getElem_map, fillC, List.getElem_append, List.length_replicate, List.getElem_replicate]
      split <;> split <;> first | rfl | omega
theorem fillC_cell (k : Nat) (h : k < 37) : (u16s (fillC k)).toArray[k]? = some (.int .u16 0) := by
  have h1 : (fillC k)[k]? = some 0 := by
    unfold fillC
    rw [List.getElem?_append_right (by simp), List.length_replicate, Nat.sub_self, List.getElem?_replicate, if_pos (by omega)]
  simp [u16s, h1]
def FillRel (w : World) (c o : Nat) (v : Value) (wr : World) : Prop :=
  ∃ k : Nat, k ≤ 37 - o ∧ v = .int .i64 (k : Int) ∧ Blk wr c 166 (u16s (fillC (o + k))).toArray ∧ Mod (fun _ => False) w wr
def Fill1 (w : World) (c : Nat) (v : Value) (wr : World) : Prop := ∃ k : Nat, k ≤ 20 ∧ v = .int .i64 (k : Int) ∧ Blk wr c 166 (u16s (fillC k)).toArray ∧ Mod (fun _ => False) w wr
def Fill2 (w : World) (c : Nat) (v : Value) (wr : World) : Prop := ∃ k : Nat, k ≤ 16 ∧ v = .int .i64 (k : Int) ∧ Blk wr c 166 (u16s (fillC (20 + k))).toArray ∧ Mod (fun _ => False) w wr
def fillB (k : Nat) : List Nat := List.replicate (k * 37) 1024 ++ List.replicate (592 - k * 37) 0
theorem fillB_length (k : Nat) (h : k ≤ 16) : (fillB k).length = 592 := by simp [fillB]; omega
theorem fillB_put (k : Nat) (h : k < 16) : splice (u16s (fillB k)) (k * 37) (u16s (fillC 37)) = u16s (fillB (k + 1)) := by
  have h1 : u16s (fillC 37) = List.replicate 37 (.int .u16 1024) := by simp [u16s, fillC]
  have h2 : ∀ k, u16s (fillB k) = List.replicate (k * 37) (.int .u16 1024) ++ List.replicate (592 - k * 37) (.int .u16 0) := fun k => by simp [u16s, fillB]
  rw [h1, h2, h2]
  unfold splice
  rw [List.take_append_of_le_length (by simp), List.take_of_length_le (by simp), List.drop_append, List.drop_eq_nil_of_le (by simp), List.nil_append, List.drop_replicate, ← List.append_assoc, List.replicate_append_replicate]
  congr 1
  · congr 1; omega
  · congr 1; simp; omega
def Fill3 (w : World) (c b : Nat) (v : Value) (wr : World) : Prop := ∃ k : Nat, k ≤ 16 ∧ v = .int .i64 (k : Int) ∧ Blk wr b 169 (u16s (fillB k)).toArray ∧ Blk wr c 166 (u16s (fillC 37)).toArray ∧ Mod (fun _ => False) w wr
theorem zero166 : (u16s (fillC 0)).toArray.size = 37 := by decide
theorem ch_one (l : List Nat) : ∀ v ∈ u16s l, v.oneCell' = true := fun v hv => by
  obtain ⟨x, _, rfl⟩ := List.mem_map.1 hv
  rfl

set_option maxRecDepth 100000 in
set_option maxHeartbeats 4000000 in
theorem bNew (w : World) : Calls Tryz.prog 62 #[] w fun e w' => ∃ b, e = .returned (.pointer (some ⟨b, 0, none⟩)) ∧ Blk w' b 169 (u16s (fillB 16)).toArray ∧ w.heap.size ≤ b ∧ Mod (fun _ => False) w w' := by
  have hz : Tryz.zeroCells169 = (u16s (fillB 0)).toArray := by kernel_rfl
  have HZ := Lib.hid hz
  clear hz
  have hb0 : Blk (w.alloc (.cells (u16s (fillC 0)).toArray 166)) w.heap.size 166 (u16s (fillC 0)).toArray := Blk.new _ _ _
  have m0 : Mod (fun _ => False) w (w.alloc (.cells (u16s (fillC 0)).toArray 166)) := (Mod.refl _ _).alloc _
  have HM := Lib.hid (And.intro hb0 m0)
  clear hb0 m0
  go_enter Tryz.func62, Tryz.ntmps62
  go_upto_region 2 with (fail)
  rw [show w.alloc (.cells #[.int .u16 0, .int .u16 0, .int .u16 0, .int .u16 0, .int .u16 0, .int .u16 0, .int .u16 0, .int .u16 0, .int .u16 0, .int .u16 0, .int .u16 0, .int .u16 0, .int .u16 0, .int .u16 0, .int .u16 0, .int .u16 0, .int .u16 0, .int .u16 0, .int .u16 0, .int .u16 0, .int .u16 0, .int .u16 0, .int .u16 0, .int .u16 0, .int .u16 0, .int .u16 0, .int .u16 0, .int .u16 0, .int .u16 0, .int .u16 0, .int .u16 0, .int .u16 0, .int .u16 0, .int .u16 0, .int .u16 0, .int .u16 0, .int .u16 0] 166) = w.alloc (.cells (u16s (fillC 0)).toArray 166) from rfl]
  generalize hw1 : w.alloc (.cells (u16s (fillC 0)).toArray 166) = w1 at *
  go_wp2_with fail
  go_loopw [6] (Fill1 w w.heap.size) (fun i _ => 20 - (intOf i).toNat)
  case atStart => exact ⟨0, by omega, rfl, HM.out.1, HM.out.2⟩
  case round =>
    obtain ⟨k, hk, rfl, hb, hM⟩ := hrel
    by_cases hlt : k < 20
    · have d1 : decide ((k : Int) < 20) = true := decide_eq_true (by omega)
      have p0 : (0 : Int) ≤ (k : Int) := by omega
      have p1 : (k : Int) < 20 := by omega
      have ck : wr.cell? ⟨w.heap.size, k, none⟩ = some (.int .u16 0) := (hb.cell k).trans (fillC_cell k (by omega))
      have fk := hb.frozen k
      have hl := hb.lt
      have HB := Lib.hid (And.intro hb hM)
      clear hb hM
      go_wp2_with fail
      go_roundw
      case rel => exact ⟨k + 1, by omega, by go_num, HB.out.1.put (by simpa using fillC_set k (by omega)), HB.out.2.setCell (.inr (Nat.le_refl _)) _⟩
      case measure => simp [intOf]; omega
    · obtain rfl : k = 20 := by omega
      have HB := Lib.hid (And.intro hb hM)
      clear hb hM
      go_wp2_with fail
      go_loopw [13] (Fill2 w w.heap.size) (fun i _ => 16 - (intOf i).toNat)
      case atStart => exact ⟨0, by omega, rfl, HB.out.1, HB.out.2⟩
      case round =>
        clear HB
        obtain ⟨k, hk, rfl, hb, hM⟩ := hrel
        by_cases hlt : k < 16
        · have d1 : decide ((k : Int) < 16) = true := decide_eq_true (by omega)
          have p0 : (0 : Int) ≤ (k : Int) := by omega
          have p1 : (k : Int) < 16 := by omega
          have ck : wr.cell? ⟨w.heap.size, 20 + k, none⟩ = some (.int .u16 0) := (hb.cell (20 + k)).trans (fillC_cell (20 + k) (by omega))
          have fk := hb.frozen (20 + k)
          have hl := hb.lt
          have HB := Lib.hid (And.intro hb hM)
          clear hb hM
          go_wp2_with fail
          go_roundw
          case rel => exact ⟨k + 1, by omega, by go_num, HB.out.1.put (by rw [← Nat.add_assoc]; simpa using fillC_set (20 + k) (by omega)), HB.out.2.setCell (.inr (Nat.le_refl _)) _⟩
          case measure => simp [intOf]; omega
        · obtain rfl : k = 16 := by omega
          have ck : wr.cell? ⟨w.heap.size, 36, none⟩ = some (.int .u16 0) := by rw [hb.cell]; rfl
          have fk := hb.frozen 36
          have hl := hb.lt
          have hb2 : Blk (wr.setCell ⟨w.heap.size, 36, none⟩ (.int .u16 1024)) w.heap.size 166 (u16s (fillC 37)).toArray := hb.put (by simpa using fillC_set 36 (by omega))
          have hM2 : Mod (fun _ => False) w (wr.setCell ⟨w.heap.size, 36, none⟩ (.int .u16 1024)) := hM.setCell (.inr (Nat.le_refl _)) _
          have HB := Lib.hid (And.intro hb2 hM2)
          clear hb hM hb2 hM2
          go_upto_region 13 with (fail)
          clear ck fk hl
          generalize wr.setCell ⟨w.heap.size, 36, none⟩ (.int .u16 1024) = w2 at *
          go_upto_region 14 with (fail)
          rw [HZ.out]
          have hb3 : Blk (w2.alloc (.cells (u16s (fillB 0)).toArray 169)) w2.heap.size 169 (u16s (fillB 0)).toArray := Blk.new _ _ _
          have hc3 := HB.out.1.alloc (.cells (u16s (fillB 0)).toArray 169)
          have hM3 := HB.out.2.alloc (.cells (u16s (fillB 0)).toArray 169)
          have hs2 := HB.out.2.size
          have hcl := HB.out.1.lt
          generalize hbk : w2.heap.size = bk at *
          generalize w2.alloc (.cells (u16s (fillB 0)).toArray 169) = w3 at *
          have HB3 := Lib.hid (And.intro hb3 (And.intro hc3 hM3))
          clear hb3 hc3 hM3 HB hbk
          obtain ⟨ch, hch⟩ : ∃ ch, ch = w.heap.size := ⟨_, rfl⟩
          rw [← hch] at HB3 hcl ⊢
          clear HM
          have HCH := Lib.hid hch
          clear hch
          go_wp2_with fail
          go_loopw [23] (Fill3 w ch bk) (fun i _ => 16 - (intOf i).toNat)
          case atStart => exact ⟨0, by omega, rfl, HB3.out.1, HB3.out.2.1, HB3.out.2.2⟩
          case round =>
            clear HB3
            obtain ⟨k, hk, rfl, hb, hc, hM⟩ := hrel
            by_cases hlt : k < 16
            · have d1 : decide ((k : Int) < 16) = true := decide_eq_true (by omega)
              have p0 : (0 : Int) ≤ (k : Int) := by omega
              have p1 : (k : Int) < 16 := by omega
              have HB := Lib.hid (And.intro hb (And.intro hc hM))
              clear hb hc hM
              go_upto_region 17 with (fail)
              refine wp_region_still_tail 6 (by kernel_rfl) (by kernel_rfl) ?_
              simp only [List.take_succ_cons, List.take_zero, List.drop_succ_cons, List.drop_zero]
              repeat (first | (refine wpStill_load_row rfl 166 (.tmp 1) rfl ch rfl 166 (u16s (fillC 37)).toArray _ HB.out.2.1 Tryz.underlying166 rfl (by kernel_rfl) ?_) | still_step)
              refine wpStill_nil ?_
              change wpList _ _ _ _ _ wr.drew
              refine wpList_store_part rfl 166 (.tmp 31) (.tmp 28) rfl bk (k * 37) (u16s (fillC 37)) rfl rfl 169 (u16s (fillB k)) HB.out.1 (by kernel_rfl) (by simp [u16s, fillC, fillB]; omega) (ch_one _) ?_
              intro w5 hb5 hm5
              rw [fillB_put k hlt] at hb5
              have hc5 := HB.out.2.1.keep (w := wr.drew) hm5 (by omega)
              have hM5 : Mod (fun _ => False) w w5 := (HB.out.2.2.drew).into hm5 (fun i e => .inr (by omega))
              have HB5 := Lib.hid (And.intro hb5 (And.intro hc5 hM5))
              clear hb5 hc5 hM5 hm5
              go_wp2_with fail
              go_roundw
              case rel => ((repeat apply Exists.intro); exact ⟨⟨k + 1, by omega, by go_num, HB5.out.1, HB5.out.2.1, HB5.out.2.2⟩, rfl⟩)
              case measure => simp [intOf]; omega
            · obtain rfl : k = 16 := by omega
              have HB := Lib.hid (And.intro hb hM)
              clear hb hc hM
              go_wp2_with fail
              go_ret
              exact ⟨bk, rfl, HB.out.1, hs2, HB.out.2⟩
end Go.Proofs.YteppnjgfebcmjaaGreat
