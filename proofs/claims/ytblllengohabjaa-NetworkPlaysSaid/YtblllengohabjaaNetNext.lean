/-
  network.Network.Next.
-/
import Derived.Test.YtblllengohabjaaNetIs
namespace Go.Proofs.Ytblllengohabjaa
open Go.RowKit

def sel (sd : Nat) (P0 P1 : List Pk) : List Pk := if sd = 0 then P0 else P1
def put0 (sd : Nat) (P0 P : List Pk) : List Pk := if sd = 0 then P else P0
def put1 (sd : Nat) (P1 P : List Pk) : List Pk := if sd = 0 then P1 else P

/-- What Next leaves: nothing is due; or the first one. -/
def NextPost (w : World) (B g sd : Nat) (t s : Int) (P0 P1 : List Pk) (e : Ending) (w' : World) : Prop :=
  (e = .returned (.tuple #[.slice none 0 0, .bool false]) ∧ (∃ n, w' = w.drewN n) ∧ ∀ p ∈ sel sd P0 P1, t < p.due) ∨
  ∃ (p : Pk) (P : List Pk), e = .returned (.tuple #[p.data, .bool true]) ∧ (sel sd P0 P1).Perm (p :: P) ∧ (∀ q ∈ sel sd P0 P1, plt q p = false) ∧ p.due ≤ t ∧
    NetIs w' B g t s (put0 sd P0 P) (put1 sd P1 P) ∧ Bytes w' B p.data p.bytes ∧ TMod B netT w w'

set_option maxHeartbeats 400000 in
theorem next_nil (w : World) (side : Int) : Calls Try.prog 13 #[.pointer none, .int .i64 side] w fun e w' => e = .returned (.tuple #[.slice none 0 0, .bool false]) ∧ w = w' := by
  go_enter Try.func13, Try.ntmps13
  go_wp2_with fail
  go_ret2
  exact ⟨rfl, rfl⟩
set_option maxHeartbeats 400000 in
theorem next_no (w : World) (a : Addr) (side : Int) (h : side < 0 ∨ 2 ≤ side) : Calls Try.prog 13 #[.pointer (some a), .int .i64 side] w fun e w' => e = .returned (.tuple #[.slice none 0 0, .bool false]) ∧ w = w' := by
  go_enter Try.func13, Try.ntmps13
  go_wp2_with fail
  all_goals first
    | (go_ret2; exact ⟨rfl, rfl⟩)
    | (exfalso; omega)

theorem min_all {ps P : List Pk} (hh : Heap ps) (hp : ps.Perm P) : ∀ q ∈ P, plt q (pkAt ps 0) = false := fun q hq => by
  obtain ⟨i, hi, rfl⟩ := List.getElem_of_mem (hp.mem_iff.2 hq)
  rw [← pkAt_get _ _ hi]
  exact hh.first i hi

theorem pop_parts {w w' : World} {B g : Nat} {cs : Array Value} {v : Value} {q : List Pk} (hB : B ≤ g) (hb : Blk w g 55 cs) (hq : QRow w B v q) (M : Mod (fun k => k = g ∨ v.ownBlock = some k) w w') : TMod B netT w w' := by
  refine .of_mod M (fun k _ hk => ?_)
  rcases hk with rfl | hk
  · exact ⟨hB, _, _, hb, by decide⟩
  · obtain ⟨h1, c1, h2⟩ := own_blk hq hk
    exact ⟨h1, _, _, h2, by decide⟩

set_option maxHeartbeats 2000000 in
theorem netNext0 (w : World) (B g : Nat) (t s : Int) (P0 P1 : List Pk) (h : NetIs w B g t s P0 P1) :
    Calls Try.prog 13 #[.pointer (some ⟨g, 0, none⟩), .int .i64 0] w (NextPost w B g 0 t s P0 P1) := by
  obtain ⟨hB, ⟨v0, v1, q0, q1, a1, a2, a3, a4, a5, a6, a7, a8, a9, a10⟩, hfw, ht, hs⟩ := h
  obtain ⟨A0, c0, hv0⟩ := a2.form
  obtain ⟨A1, c1, hv1⟩ := a3.form
  have hgl := a1.lt
  have hlen0 := a4.length_eq
  have hle : q0.length ≤ 200 := by omega
  obtain ⟨hc, hf⟩ := a1.both
  rw [hv0, hv1] at hc
  have HA := Lib.hid (And.intro a1 (And.intro a2 (And.intro a3 (And.intro a4 (And.intro a5 (And.intro a6 (And.intro a7 (And.intro a8 (And.intro a9 a10)))))))))
  have HF := Lib.hid (And.intro hfw hlen0)
  have hsl := a8.sl
  by_cases h0 : q0.length = 0
  · have e0 : ((q0.length : Int) == 0) = true := beq_iff_eq.2 (by omega)
    have e1 : (q0.length == 0) = true := beq_iff_eq.2 h0
    have HE : Hid (∀ p ∈ sel 0 P0 P1, t < p.due) := fun p hp => by
      have : q0 = [] := List.eq_nil_of_length_eq_zero h0
      have := a4.mem_iff.2 (show p ∈ P0 from hp)
      simp_all
    clear a1 a2 a3 a4 a5 a6 a7 a8 a9 a10 hv0 hv1 h0 hfw hlen0
    go_enter Try.func13, Try.ntmps13
    go_wp2_with fail
    go_quiet ((go_at_call 21; exact Calls.quiet_of_same ((qLen _ _ _ _).mono fun _ _ hh => ⟨hh.1, hh.2.symm⟩)))
    go_wp2_with fail
    go_ret2
    exact .inl ⟨rfl, ⟨_, rfl⟩, HE.out⟩
  · have e0 : ((q0.length : Int) == 0) = false := beq_eq_false_iff_ne.2 (by omega)
    have e1 : (q0.length == 0) = false := beq_eq_false_iff_ne.2 h0
    obtain ⟨r, hr, _, hcap, _, hrl, hcell, hfr⟩ := (show QRow w B (.slice A0 q0.length c0) q0 from hv0 ▸ a2).place (by omega)
    subst hr
    obtain ⟨z1, _, _⟩ := hcell 0 (by omega)
    rw [Nat.zero_mul] at z1
    have hq0 : 0 < q0.length := by omega
    have i2 : (0 : Int) < (q0.length : Int) := by omega
    have hmin := min_all a6 a4
    have HMIN := Lib.hid hmin
    clear hcell h0 hmin
    by_cases hd : t < (pkAt q0 0).due
    · have hd' : decide (t < (pkAt q0 0).due) = true := by simpa using hd
      have HE : Hid (∀ p ∈ sel 0 P0 P1, t < p.due) := fun p hp => by
        have := (plt_no _ _).1 (HMIN.out p hp)
        omega
      clear a1 a2 a3 a4 a5 a6 a7 a8 a9 a10 hv0 hv1 hfw hlen0
      go_enter Try.func13, Try.ntmps13
      go_wp2_with fail
      go_quiet ((go_at_call 21; exact Calls.quiet_of_same ((qLen _ _ _ _).mono fun _ _ hh => ⟨hh.1, hh.2.symm⟩)))
      go_wp2_with fail
      go_ret2
      exact .inl ⟨rfl, ⟨_, rfl⟩, HE.out⟩
    · have hd' : decide (t < (pkAt q0 0).due) = false := by simpa using hd
      have hdt : (pkAt q0 0).due ≤ t := by omega
      have hta := assert_pk (.agg #[.int .i64 (pkAt q0 0).due, .int .i64 (pkAt q0 0).num, (pkAt q0 0).data])
      obtain ⟨Ad, nd, cd, hdat⟩ := hsl (pkAt q0 0) (by rw [pkAt_get _ _ hq0]; exact List.getElem_mem hq0)
      have HV := Lib.hid (And.intro hv0 hv1)
      have HDT := Lib.hid hdat
      clear a1 a2 a3 a4 a5 a6 a7 a8 a9 a10 hfw hlen0 hv0 hv1 hdat
      go_enter Try.func13, Try.ntmps13
      go_wp2_with fail
      go_quiet ((go_at_call 21; exact Calls.quiet_of_same ((qLen _ _ _ _).mono fun _ _ hh => ⟨hh.1, hh.2.symm⟩)))
      go_wp2_with fail
      obtain ⟨a1, a2, a3, a4, a5, a6, a7, a8, a9, a10⟩ := HA.out
      have c1 := hPop (w.drewN nq) g 2 B _ v0 q0 (a1.drewN nq) rfl (a2.drewN nq) hsl a6 (by omega) hq0
      rw [HDT.out] at c1 hta
      refine c1.mono ?_
      clear c1
      rintro e w2 ⟨v', qs, rfl, hb2, hq2, hp2, hh2, M2, hv2⟩
      have hb2' : Blk w2 g 55 #[.int .i64 t, .int .i64 s, v', v1] := hb2
      have T2 : TMod B netT w w2 := ((TMod.refl _ _ _).drewN nq).trans (pop_parts hB (a1.drewN nq) (a2.drewN nq) M2)
      have hx2 : QRow w2 B v1 q1 := own_mod (a3.drewN nq) M2 (fun k hk e => by
        rcases e with e | e
        · exact own_ne_blk a3 a1 (by decide) (by rw [hk, e])
        · exact a10 k e hk)
      have hsub : ∀ p ∈ qs, p ∈ q0 := fun p hp => hp2.mem_iff.2 (List.mem_cons_of_mem _ hp)
      have d2 : DataOk w2 B qs := fun p hp => own_tmod (a8 p (hsub p hp)) T2 (by decide)
      have dx2 : DataOk w2 B q1 := a9.tmod T2 (by decide)
      have ap : ∀ k, v'.ownBlock = some k → v1.ownBlock ≠ some k := fun k hk => a10 k (by rw [← hv2]; exact hk)
      have hby : Bytes w2 B (pkAt q0 0).data (pkAt q0 0).bytes := own_tmod (a8 _ (by rw [pkAt_get _ _ hq0]; exact List.getElem_mem hq0)) T2 (by decide)
      have HR := Lib.hid (And.intro hb2' (And.intro hq2 (And.intro hp2 (And.intro hh2 (And.intro T2 (And.intro hx2 (And.intro d2 (And.intro dx2 (And.intro ap hby)))))))))
      clear hb2 hb2' hq2 hp2 hh2 M2 hv2 T2 hx2 hsub d2 dx2 ap hby a1 a2 a3 a4 a5 a6 a7 a8 a9 a10
      go_wp2_with fail
      obtain ⟨hb2', hq2, hp2, hh2, T2, hx2, d2, dx2, ap, hby⟩ := HR.out
      obtain ⟨a1, a2, a3, a4, a5, a6, a7, a8, a9, a10⟩ := HA.out
      go_ret2
      have T3 := (TMod.refl B netT w2).alloc (.cells #[.int .i64 (pkAt q0 0).due, .int .i64 (pkAt q0 0).num, .slice Ad nd cd] 60)
      refine .inr ⟨pkAt q0 0, qs, by rw [HDT.out]; rfl, a4.symm.trans hp2, HMIN.out, hdt, ?_, hby.alloc _, T2.alloc _⟩
      have d2' : DataOk (w2.alloc (.cells #[.int .i64 (pkAt q0 0).due, .int .i64 (pkAt q0 0).num, .slice Ad nd cd] 60)) B qs := fun p hp => (d2 p hp).alloc _
      have dx2' : DataOk (w2.alloc (.cells #[.int .i64 (pkAt q0 0).due, .int .i64 (pkAt q0 0).num, .slice Ad nd cd] 60)) B q1 := fun p hp => (dx2 p hp).alloc _
      refine ⟨hB, ⟨v', v1, qs, q1, hb2'.alloc _, hq2.alloc _, hx2.alloc _, List.Perm.refl _, a5, hh2, a7, d2', dx2', ap⟩, ?_, ht, hs⟩
      · obtain ⟨f1, f2⟩ := HF.out
        have := hp2.length_eq
        simp only [List.length_cons] at this
        show qs.length + P1.length ≤ 200
        omega

set_option maxHeartbeats 2000000 in
theorem netNext1 (w : World) (B g : Nat) (t s : Int) (P0 P1 : List Pk) (h : NetIs w B g t s P0 P1) :
    Calls Try.prog 13 #[.pointer (some ⟨g, 0, none⟩), .int .i64 1] w (NextPost w B g 1 t s P0 P1) := by
  obtain ⟨hB, ⟨v0, v1, q0, q1, a1, a2, a3, a4, a5, a6, a7, a8, a9, a10⟩, hfw, ht, hs⟩ := h
  obtain ⟨A0, c0, hv0⟩ := a2.form
  obtain ⟨A1, c1, hv1⟩ := a3.form
  have hgl := a1.lt
  have hlen1 := a5.length_eq
  have hle : q1.length ≤ 200 := by omega
  obtain ⟨hc, hf⟩ := a1.both
  rw [hv0, hv1] at hc
  have HA := Lib.hid (And.intro a1 (And.intro a2 (And.intro a3 (And.intro a4 (And.intro a5 (And.intro a6 (And.intro a7 (And.intro a8 (And.intro a9 a10)))))))))
  have HF := Lib.hid (And.intro hfw hlen1)
  have hsl := a9.sl
  by_cases h0 : q1.length = 0
  · have e0 : ((q1.length : Int) == 0) = true := beq_iff_eq.2 (by omega)
    have e1 : (q1.length == 0) = true := beq_iff_eq.2 h0
    have HE : Hid (∀ p ∈ sel 1 P0 P1, t < p.due) := fun p hp => by
      have : q1 = [] := List.eq_nil_of_length_eq_zero h0
      have := a5.mem_iff.2 (show p ∈ P1 from hp)
      simp_all
    clear a1 a2 a3 a4 a5 a6 a7 a8 a9 a10 hv0 hv1 h0 hfw hlen1
    go_enter Try.func13, Try.ntmps13
    go_wp2_with fail
    go_quiet ((go_at_call 21; exact Calls.quiet_of_same ((qLen _ _ _ _).mono fun _ _ hh => ⟨hh.1, hh.2.symm⟩)))
    go_wp2_with fail
    go_ret2
    exact .inl ⟨rfl, ⟨_, rfl⟩, HE.out⟩
  · have e0 : ((q1.length : Int) == 0) = false := beq_eq_false_iff_ne.2 (by omega)
    have e1 : (q1.length == 0) = false := beq_eq_false_iff_ne.2 h0
    obtain ⟨r, hr, _, hcap, _, hrl, hcell, hfr⟩ := (show QRow w B (.slice A1 q1.length c1) q1 from hv1 ▸ a3).place (by omega)
    subst hr
    obtain ⟨z1, _, _⟩ := hcell 0 (by omega)
    rw [Nat.zero_mul] at z1
    have hq0 : 0 < q1.length := by omega
    have i2 : (0 : Int) < (q1.length : Int) := by omega
    have hmin := min_all a7 a5
    have HMIN := Lib.hid hmin
    clear hcell h0 hmin
    by_cases hd : t < (pkAt q1 0).due
    · have hd' : decide (t < (pkAt q1 0).due) = true := by simpa using hd
      have HE : Hid (∀ p ∈ sel 1 P0 P1, t < p.due) := fun p hp => by
        have := (plt_no _ _).1 (HMIN.out p hp)
        omega
      clear a1 a2 a3 a4 a5 a6 a7 a8 a9 a10 hv0 hv1 hfw hlen1
      go_enter Try.func13, Try.ntmps13
      go_wp2_with fail
      go_quiet ((go_at_call 21; exact Calls.quiet_of_same ((qLen _ _ _ _).mono fun _ _ hh => ⟨hh.1, hh.2.symm⟩)))
      go_wp2_with fail
      go_ret2
      exact .inl ⟨rfl, ⟨_, rfl⟩, HE.out⟩
    · have hd' : decide (t < (pkAt q1 0).due) = false := by simpa using hd
      have hdt : (pkAt q1 0).due ≤ t := by omega
      have hta := assert_pk (.agg #[.int .i64 (pkAt q1 0).due, .int .i64 (pkAt q1 0).num, (pkAt q1 0).data])
      obtain ⟨Ad, nd, cd, hdat⟩ := hsl (pkAt q1 0) (by rw [pkAt_get _ _ hq0]; exact List.getElem_mem hq0)
      have HV := Lib.hid (And.intro hv0 hv1)
      have HDT := Lib.hid hdat
      clear a1 a2 a3 a4 a5 a6 a7 a8 a9 a10 hfw hlen1 hv0 hv1 hdat
      go_enter Try.func13, Try.ntmps13
      go_wp2_with fail
      go_quiet ((go_at_call 21; exact Calls.quiet_of_same ((qLen _ _ _ _).mono fun _ _ hh => ⟨hh.1, hh.2.symm⟩)))
      go_wp2_with fail
      obtain ⟨a1, a2, a3, a4, a5, a6, a7, a8, a9, a10⟩ := HA.out
      have c1 := hPop (w.drewN nq) g 3 B _ v1 q1 (a1.drewN nq) rfl (a3.drewN nq) hsl a7 (by omega) hq0
      rw [HDT.out] at c1 hta
      refine c1.mono ?_
      clear c1
      rintro e w2 ⟨v', qs, rfl, hb2, hq2, hp2, hh2, M2, hv2⟩
      have hb2' : Blk w2 g 55 #[.int .i64 t, .int .i64 s, v0, v'] := hb2
      have T2 : TMod B netT w w2 := ((TMod.refl _ _ _).drewN nq).trans (pop_parts hB (a1.drewN nq) (a3.drewN nq) M2)
      have hx2 : QRow w2 B v0 q0 := own_mod (a2.drewN nq) M2 (fun k hk e => by
        rcases e with e | e
        · exact own_ne_blk a2 a1 (by decide) (by rw [hk, e])
        · exact a10 k hk e)
      have hsub : ∀ p ∈ qs, p ∈ q1 := fun p hp => hp2.mem_iff.2 (List.mem_cons_of_mem _ hp)
      have d2 : DataOk w2 B qs := fun p hp => own_tmod (a9 p (hsub p hp)) T2 (by decide)
      have dx2 : DataOk w2 B q0 := a8.tmod T2 (by decide)
      have ap : ∀ k, v0.ownBlock = some k → v'.ownBlock ≠ some k := fun k hk e => a10 k hk (by rw [← hv2]; exact e)
      have hby : Bytes w2 B (pkAt q1 0).data (pkAt q1 0).bytes := own_tmod (a9 _ (by rw [pkAt_get _ _ hq0]; exact List.getElem_mem hq0)) T2 (by decide)
      have HR := Lib.hid (And.intro hb2' (And.intro hq2 (And.intro hp2 (And.intro hh2 (And.intro T2 (And.intro hx2 (And.intro d2 (And.intro dx2 (And.intro ap hby)))))))))
      clear hb2 hb2' hq2 hp2 hh2 M2 hv2 T2 hx2 hsub d2 dx2 ap hby a1 a2 a3 a4 a5 a6 a7 a8 a9 a10
      go_wp2_with fail
      obtain ⟨hb2', hq2, hp2, hh2, T2, hx2, d2, dx2, ap, hby⟩ := HR.out
      obtain ⟨a1, a2, a3, a4, a5, a6, a7, a8, a9, a10⟩ := HA.out
      go_ret2
      have T3 := (TMod.refl B netT w2).alloc (.cells #[.int .i64 (pkAt q1 0).due, .int .i64 (pkAt q1 0).num, .slice Ad nd cd] 60)
      refine .inr ⟨pkAt q1 0, qs, by rw [HDT.out]; rfl, a5.symm.trans hp2, HMIN.out, hdt, ?_, hby.alloc _, T2.alloc _⟩
      have d2' : DataOk (w2.alloc (.cells #[.int .i64 (pkAt q1 0).due, .int .i64 (pkAt q1 0).num, .slice Ad nd cd] 60)) B qs := fun p hp => (d2 p hp).alloc _
      have dx2' : DataOk (w2.alloc (.cells #[.int .i64 (pkAt q1 0).due, .int .i64 (pkAt q1 0).num, .slice Ad nd cd] 60)) B q0 := fun p hp => (dx2 p hp).alloc _
      refine ⟨hB, ⟨v0, v', q0, qs, hb2'.alloc _, hx2.alloc _, hq2.alloc _, a4, List.Perm.refl _, a6, hh2, dx2', d2', ap⟩, ?_, ht, hs⟩
      · obtain ⟨f1, f2⟩ := HF.out
        have := hp2.length_eq
        simp only [List.length_cons] at this
        show P0.length + qs.length ≤ 200
        omega
end Go.Proofs.Ytblllengohabjaa
