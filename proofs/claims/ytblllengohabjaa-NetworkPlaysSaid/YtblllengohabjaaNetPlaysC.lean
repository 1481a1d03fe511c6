/-
  kinoralaw21.NetworkPlays: what its walk needs.
-/
import Derived.Test.YtblllengohabjaaNetCpl
import Derived.Test.YtblllengohabjaaNetRefS
namespace Go.Proofs.Ytblllengohabjaa
open Go.RowKit

structure ActV where
  kind : Int
  side : Int
  fk : Int
  fd : Int
  fn : Int
  A : Option Addr
  n : Nat
  c : Nat
  l : List UInt8
def ActV.cells (a : ActV) : Array Value := #[.int .i64 a.kind, .int .i64 a.side, .slice a.A a.n a.c, .int .i64 a.fk, .int .i64 a.fd, .int .i64 a.fn]
/-- The slice of acts that came in. -/
def Acts (w : World) (A : Option Addr) (n : Nat) (acts : Nat → ActV) : Prop :=
  0 < n → ∃ b off, A = some ⟨b, off, none⟩ ∧ ∀ i < n, (w.cell? ⟨b, off + i * 6, none⟩ = some (.int .i64 (acts i).kind) ∧ w.cell? ⟨b, off + i * 6 + 1, none⟩ = some (.int .i64 (acts i).side) ∧ w.cell? ⟨b, off + i * 6 + 2, none⟩ = some (.slice (acts i).A (acts i).n (acts i).c) ∧
    w.cell? ⟨b, off + i * 6 + 3, none⟩ = some (.int .i64 (acts i).fk) ∧ w.cell? ⟨b, off + i * 6 + 4, none⟩ = some (.int .i64 (acts i).fd) ∧ w.cell? ⟨b, off + i * 6 + 5, none⟩ = some (.int .i64 (acts i).fn)) ∧ BytesIn w (acts i).A (acts i).n (acts i).c (acts i).l ∧ (acts i).n ≤ maxLen ∧ (-9223372036854775808 ≤ (acts i).fn ∧ (acts i).fn ≤ 9223372036854775807)

def netA (_ : TypeId) : Bool := true
structure PlaysAt (w : World) (g g2 : Nat) (k : Nat) (t s : Int) (P0 P1 : List Pk) (L : List RP) (wr : World) : Prop where
  net : NetIs wr w.heap.size g t s P0 P1
  ref : RNet wr w.heap.size g2 t L
  cpl : Cpl L P0 P1 s
  time : 0 ≤ t ∧ t ≤ k
  sent : 0 ≤ s ∧ s ≤ 2 * k
  T : TMod w.heap.size netA w wr
theorem PlaysAt.quiet {w wr w' : World} {g g2 k : Nat} {t s : Int} {P0 P1 : List Pk} {L : List RP} (h : PlaysAt w g g2 k t s P0 P1 L wr) (hm : Mod (fun _ => False) wr w') : PlaysAt w g g2 k t s P0 P1 L w' :=
  ⟨h.net.quiet hm, h.ref.quiet hm, h.cpl, h.time, h.sent, h.T.trans (.of_quiet hm)⟩
theorem PlaysAt.up {w wr : World} {g g2 k : Nat} {t s : Int} {P0 P1 : List Pk} {L : List RP} (h : PlaysAt w g g2 k t s P0 P1 L wr) : PlaysAt w g g2 (k + 1) t s P0 P1 L wr :=
  ⟨h.net, h.ref, h.cpl, by have := h.time; omega, by have := h.sent; omega, h.T⟩
def PlaysRel (w : World) (g g2 n : Nat) (i : Value) (wr : World) : Prop :=
  ∃ (k : Nat) (t s : Int) (P0 P1 : List Pk) (L : List RP), k ≤ n ∧ k ≤ 200 ∧ i = .int .i64 k ∧ PlaysAt w g g2 k t s P0 P1 L wr

theorem netNext_any (w : World) (B g sd : Nat) (side t s : Int) (P0 P1 : List Pk) (h : NetIs w B g t s P0 P1) (hs : side = sd) (hsd : sd = 0 ∨ sd = 1) : Calls Try.prog 13 #[.pointer (some ⟨g, 0, none⟩), .int .i64 side] w (NextPost w B g sd t s P0 P1) := by
  subst hs
  rcases hsd with rfl | rfl
  · exact netNext0 w B g t s P0 P1 h
  · exact netNext1 w B g t s P0 P1 h
theorem netSend' (w : World) (B g sd : Nat) (side t s : Int) (P0 P1 : List Pk) (h : NetIs w B g t s P0 P1) (kind delay num : Int) (A : Option Addr) (n c : Nat) (l : List UInt8) (har : ArgBytes w B A n c l) (hn : n ≤ 1048576) (hnum : -9223372036854775808 ≤ num ∧ num ≤ 9223372036854775807)
    (hs : side = sd) (hsd : sd = 0 ∨ sd = 1) (hf : fateOk sd kind delay = true) (hroom : P0.length + P1.length + (sendNews t s kind delay num l).length ≤ 200) (hst : s < 1099511627775) :
    Calls Try.prog 9 #[.pointer (some ⟨g, 0, none⟩), .int .i64 side, .slice A n c, .agg #[.int .i64 kind, .int .i64 delay, .int .i64 num]] w (SendPost w B g sd t s P0 P1 (sendNews t s kind delay num l)) := by
  subst hs
  exact netSend w B g sd t s P0 P1 h kind delay num A n c l har hn hnum hsd hf hroom hst
theorem fate_any (w : World) (k d n : Int) : Calls Try.prog 11 #[.agg #[.int .i64 k, .int .i64 d, .int .i64 n]] w fun e w' => e = .returned (.agg #[.int .i64 k, .int .i64 d, .int .i64 n]) ∧ Mod (fun _ => False) w w' := by
  go_enter Try.func11, Try.ntmps11
  go_wp2_with fail
  exact bodyPost_ret (v := .agg #[.int .i64 k, .int .i64 d, .int .i64 n]) (by simp [results, Try.results11, go_sem]) rfl ⟨rfl, ((Mod.refl _ _).alloc _).alloc _⟩

theorem plays_len {w wr : World} {g g2 k : Nat} {t s : Int} {P0 P1 : List Pk} {L : List RP} (h : PlaysAt w g g2 k t s P0 P1 L wr) : Calls Try.prog 16 #[.pointer (some ⟨g, 0, none⟩)] wr fun e w' => e = .returned (.int .i64 (L.length : Int)) ∧ w' = wr := by
  refine (netLen wr _ g t s P0 P1 h.net).mono fun e w' hh => ⟨?_, hh.2.symm⟩
  rw [hh.1, h.cpl.len]
theorem plays_now {w wr : World} {g g2 k : Nat} {t s : Int} {P0 P1 : List Pk} {L : List RP} (h : PlaysAt w g g2 k t s P0 P1 L wr) : Calls Try.prog 15 #[.pointer (some ⟨g, 0, none⟩)] wr fun e w' => e = .returned (.int .i64 t) ∧ w' = wr :=
  (netNow wr _ g t s P0 P1 h.net).mono fun _ _ hh => ⟨hh.1, hh.2.symm⟩
theorem PlaysAt.drewN {w wr : World} {g g2 k : Nat} {t s : Int} {P0 P1 : List Pk} {L : List RP} (h : PlaysAt w g g2 k t s P0 P1 L wr) (n : Nat) : PlaysAt w g g2 k t s P0 P1 L (wr.drewN n) := h.quiet ((Mod.refl _ _).drewN _)

theorem NextPost.form {w w' : World} {B g sd : Nat} {t s : Int} {P0 P1 : List Pk} {e : Ending} (h : NextPost w B g sd t s P0 P1 e w') : ∃ x q, e = .returned (.tuple #[x, .bool q]) := by
  rcases h with ⟨rfl, _⟩ | ⟨p, P', rfl, _⟩
  · exact ⟨_, _, rfl⟩
  · exact ⟨_, _, rfl⟩
theorem NextPost.ref {w w' : World} {B g g2 sd : Nat} {t s t2 : Int} {P0 P1 : List Pk} {e : Ending} {L : List RP} (h : NextPost w B g sd t s P0 P1 e w') (hr : RNet w B g2 t2 L) : RNet w' B g2 t2 L := by
  rcases h with ⟨_, ⟨n, rfl⟩, _⟩ | ⟨p, P', _, _, _, _, _, _, hT⟩
  · exact hr.quiet ((Mod.refl _ _).drewN _)
  · exact hr.tmod hT (by decide) (by decide) (by decide)
theorem RNextPost.form {w w' : World} {B g : Nat} {t side : Int} {L : List RP} {e : Ending} (h : RNextPost w B g t side L e w') : ∃ x q, e = .returned (.tuple #[x, .bool q]) := by
  rcases h with ⟨rfl, _⟩ | ⟨b, _, rfl, _⟩
  · exact ⟨_, _, rfl⟩
  · exact ⟨_, _, rfl⟩
theorem pair_inj {x y : Value} {p q : Bool} (h : Ending.returned (.tuple #[x, .bool p]) = .returned (.tuple #[y, .bool q])) : x = y ∧ p = q := by
  injection h with h
  injection h with h
  simp at h
  exact h
theorem RNet.tick {w : World} {B g : Nat} {t : Int} {L : List RP} (h : RNet w B g t L) (ht : t < 1099511627776) : RNet (w.setCell ⟨g, 0, none⟩ (.int .i64 (t + 1))) B g (t + 1) L ∧ TMod B refT w (w.setCell ⟨g, 0, none⟩ (.int .i64 (t + 1))) := by
  obtain ⟨hb, ⟨v, a1, a2⟩, hd, hf, ht2⟩ := h
  have T6 : TMod 0 (fun t => t == 28) w (w.setCell ⟨g, 0, none⟩ (.int .i64 (t + 1))) := (TMod.refl _ _ _).setCell a1 (Nat.zero_le _) (by decide) _
  exact ⟨⟨hb, ⟨v, a1.put rfl, own_tmod a2 T6 (by decide)⟩, hd.tmod T6 (by decide), hf, by omega⟩, (TMod.refl _ _ _).setCell a1 hb (by decide) _⟩
theorem cut_tick {w wr w1 : World} {g g2 k : Nat} {t s : Int} {P0 P1 : List Pk} {L : List RP} (h : PlaysAt w g g2 k t s P0 P1 L wr) (hk : k ≤ 200) (h1 : NetIs w1 w.heap.size g (t + 1) s P0 P1) (hT : TMod w.heap.size netT (wr.setCell ⟨g2, 0, none⟩ (.int .i64 (t + 1))) w1) : PlaysAt w g g2 (k + 1) (t + 1) s P0 P1 L w1 := by
  have ht := h.time
  obtain ⟨r1, r2⟩ := h.ref.tick (by omega)
  exact ⟨h1, r1.tmod hT (by decide) (by decide) (by decide), h.cpl, by omega, by have := h.sent; omega, (h.T.trans (r2.mono (fun _ _ => rfl))).trans (hT.mono (fun _ _ => rfl))⟩
theorem cut_full {w wr w2 w3 : World} {g g2 k : Nat} {t s : Int} {P0 P1 : List Pk} {L : List RP} {nw : List (Int × Int × List UInt8)} {e : Ending} (h : PlaysAt w g g2 k t s P0 P1 L wr) (hm : Mod (fun _ => False) wr w2) (hf : 200 < P0.length + P1.length + nw.length) (hp : RSendPost w2 w.heap.size g2 t L nw e w3) : e = .returned (.int .i64 211) ∧ PlaysAt w g g2 (k + 1) t s P0 P1 L w3 := by
  obtain ⟨hT, ⟨_, he, hr⟩ | ⟨hle, _⟩⟩ := hp
  · exact ⟨he, ⟨(h.net.quiet hm).tmod hT (by decide) (by decide) (by decide), hr, h.cpl, by have := h.time; omega, by have := h.sent; omega, (h.T.trans (.of_quiet hm)).trans (hT.mono (fun _ _ => rfl))⟩⟩
  · have := h.cpl.len
    omega
theorem cut_send {w wr w1 w2 w3 : World} {g g2 k sd : Nat} {t s kind delay num : Int} {l : List UInt8} {P0 P1 : List Pk} {L : List RP} {e1 e : Ending} (h : PlaysAt w g g2 k t s P0 P1 L wr) (hsd : sd = 0 ∨ sd = 1) (hf : P0.length + P1.length + (sendNews t s kind delay num l).length ≤ 200)
    (h1 : SendPost wr w.heap.size g sd t s P0 P1 (sendNews t s kind delay num l) e1 w1) (hm : Mod (fun _ => False) w1 w2) (hp : RSendPost w2 w.heap.size g2 t L (rnews t sd kind delay num l) e w3) : e = .returned (.int .i64 0) ∧ ∃ P0' P1' L' s', PlaysAt w g g2 (k + 1) t s' P0' P1' L' w3 := by
  obtain ⟨_, ns, hns, hn, hT1, _⟩ := h1
  have hl := h.cpl.len
  have e1 := sendNews_length t s kind delay num l
  have e2 := rnews_length t sd kind delay num l
  have hle2 : (sendNews t s kind delay num l).length ≤ 2 := by rw [e1]; split; omega; split <;> omega
  obtain ⟨hT, ⟨hgt, _⟩ | ⟨_, he, ls, hls, hr⟩⟩ := hp
  · omega
  · exact ⟨he, _, _, _, _, ⟨(hn.quiet hm).tmod hT (by decide) (by decide) (by decide), hr, h.cpl.send hsd hls hns, by have := h.time; omega, by have := h.sent; omega, ((h.T.trans (hT1.mono (fun _ _ => rfl))).trans (.of_quiet hm)).trans (hT.mono (fun _ _ => rfl))⟩⟩

theorem cut_next {w wr w1 w2 : World} {g g2 k : Nat} {t s side : Int} {P0 P1 : List Pk} {L : List RP} {e1 e2 : Ending} (h : PlaysAt w g g2 k t s P0 P1 L wr)
    (h1 : (side < 0 ∨ 2 ≤ side) ∧ e1 = .returned (.tuple #[.slice none 0 0, .bool false]) ∧ wr = w1 ∨ ∃ sd : Nat, side = sd ∧ (sd = 0 ∨ sd = 1) ∧ NextPost wr w.heap.size g sd t s P0 P1 e1 w1)
    (h2 : RNextPost w1 w.heap.size g2 t side L e2 w2) :
    ∃ (x y : Value) (q : Bool) (lx : List UInt8) (P0' P1' : List Pk) (L' : List RP), e1 = .returned (.tuple #[x, .bool q]) ∧ e2 = .returned (.tuple #[y, .bool q]) ∧ Bytes w2 w.heap.size x lx ∧ Bytes w2 w.heap.size y lx ∧ PlaysAt w g g2 (k + 1) t s P0' P1' L' w2 := by
  have nilB : Bytes w2 w.heap.size (.slice none 0 0) [] := World.ownsRow_nil _ _ _ _
  rcases h1 with ⟨hs, rfl, rfl⟩ | ⟨sd, rfl, hsd, h1⟩
  · rcases h2 with ⟨rfl, _, hm⟩ | ⟨b, hb, _⟩
    · exact ⟨_, _, false, [], P0, P1, L, rfl, rfl, nilB, nilB, (h.quiet hm).up⟩
    · exfalso
      have := h.cpl.side_ok hb
      omega
  · rcases h1 with ⟨rfl, ⟨n6, rfl⟩, hall⟩ | ⟨p, P', rfl, hpm, hmin, hdue, hn, hby, hT'⟩
    · rcases h2 with ⟨rfl, _, hm⟩ | ⟨b, hb, _⟩
      · exact ⟨_, _, false, [], P0, P1, L, rfl, rfl, nilB, nilB, (h.quiet (((Mod.refl _ _).drewN n6).trans hm)).up⟩
      · exact (h.cpl.no_some hsd hall hb).elim
    · rcases h2 with ⟨rfl, hno, hm⟩ | ⟨b, hb, rfl, hr, hby2, hT2⟩
      · exact (h.cpl.some_no hsd (hpm.mem_iff.2 List.mem_cons_self) hdue hno).elim
      · obtain ⟨e, hc⟩ := h.cpl.both hsd hpm hmin hdue hb
        refine ⟨_, _, true, p.bytes, _, _, _, rfl, rfl, own_tmod hby hT2 (by decide), by rw [e] at hby2; exact hby2, ⟨hn.tmod hT2 (by decide) (by decide) (by decide), hr, hc, ?_, ?_, (h.T.trans (hT'.mono (fun _ _ => rfl))).trans (hT2.mono (fun _ _ => rfl))⟩⟩
        · have := h.time; omega
        · have := h.sent; omega
end Go.Proofs.Ytblllengohabjaa
