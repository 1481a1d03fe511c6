/-
  decoder: a coded frame, plain; a decoder in memory.
-/
import Derived.Test.YteppnjgfebcmjaaGreatM44
namespace Go.Proofs.YteppnjgfebcmjaaGreat
open Go.RowKit

def noPix : Pix := ⟨[], [], []⟩
/-- Must there be a frame ahead that isn't? -/
def keyless (K : Bool) (N nx : Int) : Bool := decide (K = false ∧ (N ≠ nx ∨ nx = 0))
/-- A coded frame's: the error, or the frame and the next number. -/
def frameS (d : Dim) (G nx : Int) (ah : Option Pix) (l : List UInt8) : Except Int (Pix × Int) :=
  match hdrParse l d.W d.H G with
  | none => .error 121
  | some ((K, N, Q), a4) =>
    if keyless K N nx = true then .error 131
    else match builtS d (ah.getD noPix) K Q (l.drop ((a4 + 7) / 8)) with
      | none => .error 132
      | some f => .ok (smPix Q.toNat d f, (N + 1) % G)
theorem hdr_right {l : List UInt8} {W H G : Int} {K : Bool} {N Q : Int} {a4 : Nat} (h : hdrParse l W H G = some ((K, N, Q), a4)) : hdrFits K N Q W H G = true := by
  unfold hdrParse at h
  split at h
  · cases h
  · split at h
    · cases h
    · split at h
      · cases h
      · split at h
        · rename_i hf
          split at h
          · cases h
          · injection h with h
            injection h with h1 h2
            injection h1 with h3 h4
            injection h4 with h5 h6
            subst h3 h5 h6
            exact hf
        · cases h
theorem hdr_bounds {l : List UInt8} {W H G : Int} {K : Bool} {N Q : Int} {a4 : Nat} (h : hdrParse l W H G = some ((K, N, Q), a4)) : (0 ≤ Q ∧ Q ≤ 31) ∧ (0 ≤ N ∧ N < G ∧ G ≤ 64) ∧ K = decide (N = 0) := by
  have h1 := hdr_right h
  unfold hdrFits seqRight at h1
  simp only [Bool.and_eq_true, decide_eq_true_eq, beq_iff_eq] at h1
  obtain ⟨⟨⟨_, _, h6, h7⟩, h2, h3, h4, h5⟩, hk⟩ := h1
  exact ⟨⟨h2, h3⟩, ⟨h4, h5, h7⟩, by rw [hk]; exact Bool.beq_eq_decide_eq N 0⟩
/-- A decoder in memory: its sequence, the next number, the frame ahead. -/
def DecAt (w : World) (dg : Nat) (d : Dim) (G nx : Int) (ah : Option Pix) : Prop :=
  ∃ fr ay au av, Blk w dg 60 (decCells d.W d.H G nx fr) ∧ fr.length = 9 ∧ (ah = none → nx = 0) ∧ ∀ f, ah = some f → fr = frameV d ay au av ∧ FrameAt w d ay au av f
theorem DecAt.keep {w w' : World} {S : Nat → Prop} {dg : Nat} {d : Dim} {G nx : Int} {ah : Option Pix} (h : DecAt w dg d G nx ah) (hm : Mod S w w') (hg : ¬ S dg) (hS : ∀ j, S j → ∃ t cs, Blk w j t cs ∧ t ≠ 5) : DecAt w' dg d G nx ah := by
  obtain ⟨fr, ay, au, av, hb, hl, hn, hf⟩ := h
  refine ⟨fr, ay, au, av, hb.keep hm hg, hl, hn, fun f e => ?_⟩
  obtain ⟨h1, h2⟩ := hf f e
  have ne : ∀ {j cs}, Blk w j 5 cs → ¬ S j := fun hb hj => by
    obtain ⟨t, cs', hb', ht⟩ := hS _ hj
    exact hb'.ne_ hb ht rfl
  exact ⟨h1, h2.mod hm (ne h2.by_) (ne h2.bu) (ne h2.bv)⟩
theorem DecAt.quiet {w w' : World} {dg : Nat} {d : Dim} {G nx : Int} {ah : Option Pix} (h : DecAt w dg d G nx ah) (hm : Mod (fun _ => False) w w') : DecAt w' dg d G nx ah := h.keep hm (fun h => h) (fun _ h => h.elim)
theorem DecAt.lt {w : World} {dg : Nat} {d : Dim} {G nx : Int} {ah : Option Pix} (h : DecAt w dg d G nx ah) : dg < w.heap.size := by
  obtain ⟨fr, ay, au, av, hb, _⟩ := h
  exact hb.lt
theorem DecAt.beside {w w' : World} {dg mg : Nat} {d d' : Dim} {G nx G' nx' : Int} {ah ah' : Option Pix} (h : DecAt w dg d G nx ah) (hm : Mod (· = mg) w w') (hg : dg ≠ mg) (h' : DecAt w mg d' G' nx' ah') : DecAt w' dg d G nx ah := by
  obtain ⟨fr, ay, au, av, hb, _⟩ := h'
  exact h.keep hm hg (fun j e => by subst e; exact ⟨_, _, hb, by decide⟩)
/-- What a decoder's Frame does. -/
def DFrPost (w : World) (dg : Nat) (d : Dim) (G nx : Int) (ah : Option Pix) (l : List UInt8) (e : Ending) (w' : World) : Prop :=
  (∃ er : Int, frameS d G nx ah l = .error er ∧ e = .returned (.tuple #[.agg noFrame.toArray, .int .i64 er]) ∧ Mod (fun _ => False) w w') ∨
  ∃ f nx' p, frameS d G nx ah l = .ok (f, nx') ∧ e = .returned (.tuple #[p, .int .i64 0]) ∧ FrameMade w d f p w' ∧ DecAt w' dg d G nx' (some f) ∧ Mod (· = dg) w w'
end Go.Proofs.YteppnjgfebcmjaaGreat
