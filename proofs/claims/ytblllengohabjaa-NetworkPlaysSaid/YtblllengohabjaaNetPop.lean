/-
  network.queue.Pop; container/heap's Push and Pop over network.queue.
-/
import Derived.Test.YtblllengohabjaaNetPush
namespace Go.Proofs.Ytblllengohabjaa
open Go.RowKit

theorem QRow.take {w : World} {B r n c : Nat} {ps : List Pk} (h : QRow w B (.slice (some ⟨r, 0, none⟩) n c) ps) (m : Nat) (hm : m ≤ ps.length) : QRow w B (.slice (some ⟨r, 0, none⟩) m c) (ps.take m) := by
  have hl : (ps.take m).length = m := by rw [List.length_take]; omega
  refine ⟨by rw [pkCells_length], ?_⟩
  rcases h.2 with ⟨hv, _⟩ | ⟨g, cap, cur, hv, hB, hg, hnc, hcm, hs, ht⟩
  · cases hv
  · obtain ⟨rfl, e2, rfl⟩ : r = g ∧ n = ps.length ∧ c = cap := by injection hv with e1 e2 e3; injection e1 with e1; injection e1; exact ⟨by assumption, e2, e3⟩
    refine .inr ⟨r, c, cur, by rw [hl], hB, hg, by omega, hcm, hs, ?_⟩
    rw [hl, ← pkCells_take, ← ht, List.take_take, Nat.min_eq_left (by omega)]

theorem set_take (ps : List Pk) (m : Nat) (p : Pk) : (ps.set m p).take m = ps.take m := by
  rw [List.take_set, List.set_eq_of_length_le (by rw [List.length_take]; omega)]

set_option maxHeartbeats 1000000 in
theorem qPop (w : World) (g off B r c : Nat) (cs : Array Value) (ps : List Pk) (hb : Blk w g 55 cs) (hv : cs[off]? = some (.slice (some ⟨r, 0, none⟩) ps.length c)) (h : QRow w B (.slice (some ⟨r, 0, none⟩) ps.length c) ps) (hd : DataSl ps) (hn : ps.length ≤ 1000) (h0 : 0 < ps.length) :
    Calls Try.prog 47 #[.pointer (some ⟨g, off, none⟩)] w fun e w' => e = .returned (.iface 60 (.agg #[.int .i64 (pkAt ps (ps.length - 1)).due, .int .i64 (pkAt ps (ps.length - 1)).num, (pkAt ps (ps.length - 1)).data])) ∧
      Blk w' g 55 (cs.setIfInBounds off (.slice (some ⟨r, 0, none⟩) (ps.length - 1) c)) ∧ QRow w' B (.slice (some ⟨r, 0, none⟩) (ps.length - 1) c) (ps.take (ps.length - 1)) ∧ Mod (fun k => k = g ∨ k = r) w w' := by
  obtain ⟨r', hr, _, hcap, _, hrl, hcell, hfr⟩ := h.place h0
  obtain rfl : r = r' := by injection hr with hr; injection hr
  obtain ⟨m, hm⟩ : ∃ m, ps.length = m + 1 := ⟨ps.length - 1, by omega⟩
  obtain ⟨a1, a2, a3⟩ := hcell m (by omega)
  obtain ⟨A1, n1, c1, e1⟩ := hd (pkAt ps m) (by rw [pkAt_get _ _ (by omega)]; exact List.getElem_mem _)
  rw [e1] at a3
  have hgr : r ≠ g := by
    intro e
    exact own_ne_blk h hb (by decide) (by rw [← e]; rfl)
  have hgl := hb.lt
  rw [hm] at h hv
  rw [show ps.length - 1 = m by omega, e1]
  have hc : w.cell? ⟨g, off, none⟩ = some (.slice (some ⟨r, 0, none⟩) (m + 1) c) := by rw [hb.cell off, hv]
  have hf := hb.frozen off
  have i1 : (0 : Int) ≤ (m : Int) := by omega
  have hml : m + 1 ≤ 1000 := by omega
  have hmc : m + 1 ≤ c := by omega
  have H := Lib.hid (And.intro h (And.intro hb (And.intro hm e1)))
  clear h hcell hd hr e1 hm hn h0 hcap hb
  go_enter Try.func47, Try.ntmps47
  go_wp2_with fail
  obtain ⟨h, hb, hm, e1⟩ := H.out
  go_ret
  refine ⟨rfl, ?_, ?_, ?_⟩
  · exact (Blk.set_ (((hb.far (p := ⟨r, m * 3, none⟩) (Ne.symm hgr) _).far (p := ⟨r, m * 3 + 1, none⟩) (Ne.symm hgr) _).far (p := ⟨r, m * 3 + 2, none⟩) (Ne.symm hgr) _) off _).alloc _
  · have h1 := (h.store m pk0).take m (by rw [List.length_set]; omega)
    rw [set_take] at h1
    have h2 := own_mod h1 ((Mod.refl (· = g) _).setCell (p := ⟨g, off, none⟩) (by exact .inl rfl) (Value.slice (some ⟨r, 0, none⟩) m c)) (fun k hk e => hgr (by simp [Value.ownBlock] at hk; omega))
    exact h2.alloc _
  · refine Mod.alloc ?_ _
    refine Mod.setCell ?_ (by exact .inl (.inl rfl)) _
    refine Mod.setCell ?_ (by exact .inl (.inr rfl)) _
    refine Mod.setCell ?_ (by exact .inl (.inr rfl)) _
    refine Mod.setCell ?_ (by exact .inl (.inr rfl)) _
    exact Mod.refl _ _

theorem set_at {cs : Array Value} {off : Nat} {v : Value} (hv : cs[off]? = some v) (v' : Value) : (cs.setIfInBounds off v')[off]? = some v' := by
  obtain ⟨h, _⟩ := Array.getElem?_eq_some_iff.1 hv
  simp [h]

set_option maxHeartbeats 1000000 in
theorem hPush (w : World) (g off B : Nat) (cs : Array Value) (v : Value) (ps : List Pk) (p : Pk) (hb : Blk w g 55 cs) (hv : cs[off]? = some v) (h : QRow w B v ps) (hd : ∃ A n c, p.data = .slice A n c) (hds : DataSl ps) (hh : Heap ps) (hn : ps.length < 1000) (hB : B ≤ w.heap.size) :
    Calls Try.prog 18 #[.iface 57 (.pointer (some ⟨g, off, none⟩)), .iface 60 (.agg #[.int .i64 p.due, .int .i64 p.num, p.data])] w fun e w' => ∃ (v' : Value) (qs : List Pk), e = .returned (.tuple #[]) ∧ Blk w' g 55 (cs.setIfInBounds off v') ∧ QRow w' B v' qs ∧ qs.Perm (ps ++ [p]) ∧ Heap qs ∧ Mod (fun k => k = g ∨ v.ownBlock = some k) w w' ∧ (v'.ownBlock = v.ownBlock ∨ ∃ k, v'.ownBlock = some k ∧ w.heap.size ≤ k) := by
  have hm1 := fun k W => m_push k ⟨g, off, none⟩ W
  have hds' : DataSl (ps ++ [p]) := fun q hq => by
    rcases List.mem_append.1 hq with hq | hq
    · exact hds q hq
    · rw [List.mem_singleton.1 hq]; exact hd
  go_enter Try.func18, Try.ntmps18
  go_wp2_with fail
  refine (qPush w g off B cs v ps p hb hv h hd (by omega) hB).mono ?_
  rintro e w1 ⟨v1, rfl, hb1, hq1, M1, hat1⟩
  obtain ⟨A1, c1, rfl⟩ := hq1.form
  have hc1 : w1.cell? ⟨g, off, none⟩ = some (.slice A1 (ps ++ [p]).length c1) := by rw [hb1.cell off, set_at hv]
  have hL : ∀ (k : Nat) (W : World), W.cell? ⟨g, off, none⟩ = some (.slice A1 (ps ++ [p]).length c1) → (method (k + 1) 57 (.pointer (some ⟨g, off, none⟩)) "Len").run Try.prog W = .ok (21, .slice A1 (ps ++ [p]).length c1) W := fun k W h => q_len k _ W _ _ _ h
  have hlen : (ps ++ [p]).length = ps.length + 1 := by rw [List.length_append, List.length_singleton]
  obtain ⟨r, rfl, _, _, _, _, _, _⟩ := hq1.place (by omega)
  have hne : g ≠ r := fun e => own_ne_blk hq1 hb1 (by decide) (by rw [e]; rfl)
  have hinv := hh.pushed p
  rw [← hlen] at hinv
  have HI := Lib.hid hinv
  have HLN := Lib.hid hlen
  have hll : (ps ++ [p]).length ≤ 1000 ∧ 1 ≤ (ps ++ [p]).length := by omega
  clear hinv hlen hm1
  generalize hqs : ps ++ [p] = qs1 at *
  have HE := Lib.hid hqs
  clear hqs
  go_wp2_with fail
  refine (qLen _ _ _ _).mono ?_
  rintro e w2 ⟨rfl, rfl⟩
  go_wp2_with fail
  rw [show ((qs1.length : Nat) : Int) - 1 = ((ps.length : Nat) : Int) by have := HLN.out; omega]
  refine (heapUp _ g off B r c1 qs1 ps.length hc1 hne hq1 hds' HI.out hll.1).mono ?_
  rintro e w3 ⟨qs, rfl, hp, hh3, hq3, M3⟩
  go_wp2_with fail
  go_end0
  refine ⟨_, qs, rfl, hb1.keep M3 hne, hq3, by rw [HE.out]; exact hp, hh3, ?_, hat1⟩
  refine M1.into M3 (fun i e => ?_)
  subst e
  rcases hat1 with e | ⟨k, e, hk⟩
  · exact .inl (.inr (by rw [← e]; rfl))
  · obtain rfl : i = k := by simpa [Value.ownBlock] using e
    exact .inr hk

theorem perm_last {ps qs : List Pk} {n : Nat} (hp : qs.Perm ps) (hn : qs.length = n + 1) : ps.Perm (pkAt qs n :: qs.take n) := by
  have e : qs = qs.take n ++ [pkAt qs n] := by
    conv => lhs; rw [← List.take_append_drop n qs]
    congr 1
    rw [List.drop_eq_getElem_cons (by omega), pkAt_get _ _ (by omega), List.drop_of_length_le (by omega)]
  refine hp.symm.trans ?_
  conv => lhs; rw [e]
  exact (List.perm_append_comm).trans (List.Perm.refl _)

set_option maxHeartbeats 1000000 in
theorem hPop (w : World) (g off B : Nat) (cs : Array Value) (v : Value) (ps : List Pk) (hb : Blk w g 55 cs) (hv : cs[off]? = some v) (h : QRow w B v ps) (hds : DataSl ps) (hh : Heap ps) (hn : ps.length ≤ 1000) (h0 : 0 < ps.length) :
    Calls Try.prog 22 #[.iface 57 (.pointer (some ⟨g, off, none⟩))] w fun e w' => ∃ (v' : Value) (qs : List Pk), e = .returned (.iface 60 (.agg #[.int .i64 (pkAt ps 0).due, .int .i64 (pkAt ps 0).num, (pkAt ps 0).data])) ∧ Blk w' g 55 (cs.setIfInBounds off v') ∧ QRow w' B v' qs ∧ ps.Perm (pkAt ps 0 :: qs) ∧ Heap qs ∧ Mod (fun k => k = g ∨ v.ownBlock = some k) w w' ∧ v'.ownBlock = v.ownBlock := by
  obtain ⟨A, c, rfl⟩ := h.form
  obtain ⟨r, rfl, _, _, _, _, _, _⟩ := h.place h0
  have hne : g ≠ r := fun e => own_ne_blk h hb (by decide) (by rw [e]; rfl)
  have hc : w.cell? ⟨g, off, none⟩ = some (.slice (some ⟨r, 0, none⟩) ps.length c) := by rw [hb.cell off, hv]
  have hL : ∀ (k : Nat) (W : World), W.cell? ⟨g, off, none⟩ = some (.slice (some ⟨r, 0, none⟩) ps.length c) → (method (k + 1) 57 (.pointer (some ⟨g, off, none⟩)) "Len").run Try.prog W = .ok (21, .slice (some ⟨r, 0, none⟩) ps.length c) W := fun k W h => q_len k _ W _ _ _ h
  have hS : ∀ (k : Nat) (W : World), W.cell? ⟨g, off, none⟩ = some (.slice (some ⟨r, 0, none⟩) ps.length c) → (method (k + 1) 57 (.pointer (some ⟨g, off, none⟩)) "Swap").run Try.prog W = .ok (46, .slice (some ⟨r, 0, none⟩) ps.length c) W := fun k W h => q_swap k _ W _ _ _ h
  have hP := fun k W => m_pop k ⟨g, off, none⟩ W
  go_enter Try.func22, Try.ntmps22
  go_wp2_with fail
  refine (qLen _ _ _ _).mono ?_
  rintro e w2 ⟨rfl, rfl⟩
  obtain ⟨m, hm⟩ : ∃ m, ps.length = m + 1 := ⟨ps.length - 1, by omega⟩
  have HM := Lib.hid hm
  have hml : m < ps.length ∧ ps.length ≤ m + 1 := by omega
  clear hm
  go_wp2_with fail
  rw [show ((ps.length : Nat) : Int) - 1 = (m : Int) by omega]
  refine (qSwap w B r c ps h hds 0 m h0 (by omega) hn).mono ?_
  rintro e w1 ⟨rfl, hq1, M1⟩
  have hb1 := hb.keep M1 hne
  have hc1 : w1.cell? ⟨g, off, none⟩ = some (.slice (some ⟨r, 0, none⟩) ps.length c) := by rw [hb1.cell off, hv]
  have hinv := hh.popped h0
  rw [show ps.length - 1 = m by omega] at hinv
  have HI := Lib.hid hinv
  have HL1 := Lib.hid (length_swapL ps 0 m)
  have hds1 := swap_data hds 0 m h0 (by omega)
  have HP1 := Lib.hid (perm_swapL ps 0 m h0 (by omega))
  have HA1 : Hid (pkAt (swapL ps 0 m) m = pkAt ps 0) := by
    show _ = _
    rw [pkAt_swapL _ _ _ _ h0 (by omega), if_pos rfl]
  clear hinv hc
  generalize swapL ps 0 m = qs1 at *
  go_wp2_with fail
  have c1 := heapDown w1 g off B r c m qs1 (by rw [HL1.out]; exact hc1) hne (by rw [HL1.out]; exact hq1) hds1 HI.out (by rw [HL1.out]; omega) (by rw [HL1.out]; exact hn)
  refine c1.mono ?_
  clear c1
  rintro e w2 ⟨bb, qs2, rfl, hp2, hh2, hab, hq2, M2⟩
  rw [HL1.out] at hq2
  have hb2 := hb1.keep M2 hne
  have hl2 : qs2.length = ps.length := hp2.length_eq.trans HL1.out
  have HL2 := Lib.hid hl2
  have HAB := Lib.hid ((hab m (Nat.le_refl _)).trans HA1.out)
  have hds2 : DataSl qs2 := DataSl.perm hds1 hp2
  clear hl2 hab hc1
  go_wp2_with fail
  have c1 := qPop w2 g off B r c cs qs2 hb2 (by rw [HL2.out]; exact hv) (by rw [HL2.out]; exact hq2) hds2 (by rw [HL2.out]; exact hn) (by rw [HL2.out]; exact h0)
  rw [HL2.out, show ps.length - 1 = m by omega, HAB.out] at c1
  refine c1.mono ?_
  clear c1
  rintro e w3 ⟨rfl, hb3, hq3, M3⟩
  go_wp2_with fail
  go_ret
  refine ⟨_, _, rfl, hb3, hq3, ?_, hh2.take (by rw [HL2.out]; omega), ?_, rfl⟩
  · have := perm_last (hp2.trans HP1.out) (HL2.out.trans HM.out)
    rw [HAB.out] at this
    exact this
  · refine ((M1.trans M2).mono (fun i e => .inr (by rw [e]; rfl))).into M3 (fun i e => .inl ?_)
    rcases e with e | e
    · exact .inl e
    · exact .inr (by rw [e]; rfl)
end Go.Proofs.Ytblllengohabjaa
