/-
  kinoralaw21.alive returns true and leaves what was there.
-/
import Derived.Test.YtblllengohabjaaNetSendAll
import Derived.Test.YtblllengohabjaaNetStr
import Derived.Lib.SlBytesConst
namespace Go.Proofs.Ytblllengohabjaa
open Go.RowKit

/-- A literal's bytes, as the call lays them. -/
theorem lit_arg (w : World) (B : Nat) (l : List UInt8) (f : Nat × Nat) : ArgBytes (w.alloc (.cells (u8s l).toArray 5 f)) B (some ⟨w.heap.size, 0, none⟩) l.length l.length l := by
  have hb : (w.alloc (.cells (u8s l).toArray 5 f)).heap[w.heap.size]? = some (.cells (u8s l).toArray 5 f) := heap_alloc_new w _
  refine ⟨⟨rfl, fun h => (by cases h), ⟨by simp [u8s], fun h => (by cases h), fun ad e j u hu => ?_⟩, fun _ ad e => ?_⟩, fun _ ad e => ?_⟩
  · injection e with e
    subst e
    rw [addr_add, cell_of_row _ _ j _ _ _ hb]
    simpa using hu
  · injection e with e; subst e; simp
  · injection e with e; subst e; exact .inr ⟨_, _, hb⟩

theorem newsOf_one {ns : List Pk} {a b : Int} {c : List UInt8} (h : newsOf ns = [(a, b, c)]) : ∃ p, ns = [p] ∧ p.due = a ∧ p.num = b ∧ p.bytes = c := by
  unfold newsOf at h
  match ns, h with
  | [p], h =>
    simp only [List.map_cons, List.map_nil, List.cons.injEq, Prod.mk.injEq, and_true] at h
    exact ⟨p, rfl, h.1, h.2.1, h.2.2⟩

theorem two_first {p1 p2 p : Pk} {P : List Pk} (hp : [p1, p2].Perm (p :: P)) (hm : ∀ q ∈ [p1, p2], plt q p = false) (h : plt p2 p1 = true) : p = p2 ∧ P = [p1] := by
  have hmem : p ∈ [p1, p2] := hp.mem_iff.2 List.mem_cons_self
  simp only [List.mem_cons, List.not_mem_nil, or_false] at hmem
  rcases hmem with rfl | rfl
  · have := hm p2 (by simp)
    rw [h] at this
    cases this
  · refine ⟨rfl, ?_⟩
    have h2 : ([p, p1] : List Pk).Perm (p :: P) := (List.Perm.swap _ _ _).trans hp
    exact (List.perm_singleton.1 ((List.perm_cons p).1 h2).symm)

set_option maxRecDepth 100000 in
set_option maxHeartbeats 2000000 in
theorem alive21 (w : World) : Calls Try.prog 17 #[] w fun e w' => e = .returned (.bool true) ∧ Below w.heap.size w w' := by
  have kc := fun (w : World) (C : Array Value) (n c : Nat) => Lib.run_convert_bytes_const (P := Try.prog) w 29 5 C n c Try.underlying29 Try.underlying5
  go_enter Try.func17, Try.ntmps17
  go_wp2_with fail
  refine (netNew w w.heap.size (Nat.le_refl _)).mono ?_
  rintro e w1 ⟨rfl, hn1, hm1, hsz⟩
  clear hsz
  have T1 : TMod w.heap.size netT w w1 := .of_quiet hm1
  clear hm1
  obtain ⟨g, hg⟩ : ∃ g, g = w.heap.size := ⟨_, rfl⟩
  rw [show NetIs w1 w.heap.size w.heap.size 0 0 [] [] = NetIs w1 w.heap.size g 0 0 [] [] by rw [hg]] at hn1
  rw [← hg]
  clear hg
  go_wp2_with fail
  have ha1 : ArgBytes (w1.alloc (.cells #[.int .u8 108, .int .u8 97, .int .u8 116, .int .u8 101] 5 (4, 5))) w.heap.size (some ⟨w1.heap.size, 0, none⟩) 4 4 [108, 97, 116, 101] := lit_arg w1 w.heap.size [108, 97, 116, 101] (4, 5)
  have hn2 : NetIs (w1.alloc (.cells #[.int .u8 108, .int .u8 97, .int .u8 116, .int .u8 101] 5 (4, 5))) w.heap.size g 0 0 [] [] := hn1.quiet ((Mod.refl _ _).alloc _)
  have T2 : TMod w.heap.size netT w (w1.alloc (.cells #[.int .u8 108, .int .u8 97, .int .u8 116, .int .u8 101] 5 (4, 5))) := T1.alloc _
  have c1 := netSend _ w.heap.size g 1 0 0 [] [] hn2 0 2 0 _ 4 4 [108, 97, 116, 101] ha1 (by omega) (by omega) (.inr rfl) (by decide) (by decide) (by omega)
  rw [show sendNews 0 0 0 2 0 [108, 97, 116, 101] = [(2, 0, [108, 97, 116, 101])] by decide +kernel] at c1
  refine c1.mono ?_
  clear c1 ha1 hn2 hn1 T1
  rintro e w3 ⟨rfl, news, hnews, hn3, T3, _⟩
  obtain ⟨p1, rfl, hp1⟩ := newsOf_one hnews
  have hn3' : NetIs w3 w.heap.size g 0 1 [] [p1] := hn3
  have T3' := T2.trans T3
  have HP1 := Lib.hid hp1
  clear hnews hp1 hn3 T2 T3
  go_wp2_with fail
  have ha1 : ArgBytes (w3.alloc (.cells #[.int .u8 115, .int .u8 111, .int .u8 111, .int .u8 110] 5 (4, 5))) w.heap.size (some ⟨w3.heap.size, 0, none⟩) 4 4 [115, 111, 111, 110] := lit_arg w3 w.heap.size [115, 111, 111, 110] (4, 5)
  have hn4 : NetIs (w3.alloc (.cells #[.int .u8 115, .int .u8 111, .int .u8 111, .int .u8 110] 5 (4, 5))) w.heap.size g 0 1 [] [p1] := hn3'.quiet ((Mod.refl _ _).alloc _)
  have T4 : TMod w.heap.size netT w (w3.alloc (.cells #[.int .u8 115, .int .u8 111, .int .u8 111, .int .u8 110] 5 (4, 5))) := T3'.alloc _
  have c1 := netSend _ w.heap.size g 1 0 1 [] [p1] hn4 3 1 3 _ 4 4 [115, 111, 111, 110] ha1 (by omega) (by omega) (.inr rfl) (by decide) (by simp [sendNews]) (by omega)
  rw [show sendNews 0 1 3 1 3 [115, 111, 111, 110] = [(1, 1, [115, 111, 111])] by decide +kernel] at c1
  refine c1.mono ?_
  clear c1 ha1 hn4 hn3' T3'
  rintro e w5 ⟨rfl, news, hnews, hn5, T5, _⟩
  obtain ⟨p2, rfl, hp2⟩ := newsOf_one hnews
  have hn5' : NetIs w5 w.heap.size g 0 2 [] [p1, p2] := hn5
  have T5' := T4.trans T5
  have HP2 := Lib.hid hp2
  clear hnews hp2 hn5 T4 T5
  go_wp2_with fail
  refine (netNext1 _ w.heap.size g 0 2 [] [p1, p2] hn5').mono ?_
  rintro e w6 (⟨rfl, ⟨n6, rfl⟩, _⟩ | ⟨p, P, _, hpm, _, hdue, _⟩)
  rotate_left
  · exfalso
    have hmem : p ∈ [p1, p2] := hpm.mem_iff.2 List.mem_cons_self
    simp only [List.mem_cons, List.not_mem_nil, or_false] at hmem
    have a1 := HP1.out.1
    have a2 := HP2.out.1
    rcases hmem with rfl | rfl <;> omega
  have hn6 : NetIs (w5.drewN n6) w.heap.size g 0 2 [] [p1, p2] := hn5'.quiet ((Mod.refl _ _).drewN _)
  have T6 := T5'.drewN n6
  clear hn5' T5'
  generalize w5.drewN n6 = w6 at *
  go_wp2_with fail
  refine (netTick _ w.heap.size g 0 2 _ _ hn6 (by omega)).mono ?_
  rintro e w7 ⟨rfl, hn7, T7⟩
  have T7' := T6.trans T7
  clear hn6 T6 T7
  go_wp2_with fail
  refine (netTick _ w.heap.size g (0 + 1) 2 _ _ hn7 (by omega)).mono ?_
  rintro e w8 ⟨rfl, hn8, T8⟩
  have T8' := T7'.trans T8
  have hn8' : NetIs w8 w.heap.size g 2 2 [] [p1, p2] := hn8
  clear hn7 T7' T8 hn8
  go_wp2_with fail
  refine (netNext1 _ w.heap.size g 2 2 [] [p1, p2] hn8').mono ?_
  rintro e w9 (⟨_, _, hall⟩ | ⟨p, P, rfl, hpm, hmin, hdue, hn9, hby9, T9⟩)
  · exfalso
    have := hall p2 (by simp [sel])
    have := HP2.out.1
    omega
  obtain ⟨rfl, rfl⟩ := two_first hpm hmin ((plt_iff _ _).2 (.inl (by have a1 := HP1.out.1; have a2 := HP2.out.1; omega)))
  have T9' := T8'.trans T9
  have hn9' : NetIs w9 w.heap.size g 2 2 [] [p1] := hn9
  obtain ⟨Aa, ca, hda⟩ := own_shape hby9
  have HBA := Lib.hid (And.intro hby9 hda)
  rw [hda]
  clear hn8' T8' hpm hmin hdue hn9 T9 hby9 hda
  go_wp2_with fail
  refine (netNext1 _ w.heap.size g 2 2 [] [p1] hn9').mono ?_
  rintro e w10 (⟨_, _, hall⟩ | ⟨q, P, rfl, hpm, hmin, hdue, hn10, hby10, T10⟩)
  · exfalso
    have := hall p1 (by simp [sel])
    have := HP1.out.1
    omega
  have hq : q = p1 ∧ P = [] := by
    have h1 : ([p1] : List Pk).Perm (q :: P) := hpm
    have h2 := List.perm_singleton.1 h1.symm
    injection h2 with h3 h4
    exact ⟨h3, h4⟩
  obtain ⟨rfl, rfl⟩ := hq
  have hbA : Bytes w10 w.heap.size p.data p.bytes := own_tmod HBA.out.1 T10 (by decide)
  have T10' := T9'.trans T10
  have hn10' : NetIs w10 w.heap.size g 2 2 [] [] := hn10
  obtain ⟨Ab, cb, hdb⟩ := own_shape hby10
  rw [hdb]
  rw [hdb] at hby10
  rw [HBA.out.2] at hbA
  have s1 := str_bytes hbA
  have s2 := str_bytes hby10
  rw [show strOf p.bytes = ⟨#[115, 111, 111]⟩ by rw [HP2.out.2.2]; rfl] at s1
  rw [show strOf q.bytes = ⟨#[108, 97, 116, 101]⟩ by rw [HP1.out.2.2]; rfl] at s2
  clear hn9' T9' hpm hmin hdue hn10 T10 hby10 hbA hdb HBA
  go_wp2_with fail
  refine (netLen _ w.heap.size g 2 2 _ _ hn10').mono ?_
  rintro e w11 ⟨rfl, rfl⟩
  go_wp2_with fail
  refine (netNow _ w.heap.size g 2 2 _ _ hn10').mono ?_
  rintro e w11 ⟨rfl, rfl⟩
  go_wp2_with fail
  go_ret
  exact ⟨rfl, T10'.below⟩
end Go.Proofs.Ytblllengohabjaa
