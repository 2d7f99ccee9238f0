/- Package weftlaw7: sameFrame, frames, TunnelFrames.
   Conditions: the arguments are as a row's arguments are. -/
import Derived.Test.YtphbdmafchjjeaaSTLaw
import Derived.Test.YtphbdmafchjjeaaSTunF
namespace Go.Proofs.YtphbdmafchjjeaaS
open Go Go.RowKit Go.Proofs Go.Proofs.YtphbdmafchjjeaaX
set_option maxRecDepth 100000
set_option linter.unusedVariables false
set_option linter.unusedSectionVars false
set_option linter.unusedSimpArgs false

theorem eqV_int6 (a b c d e f : Int) : eqV [.int .u8 a, .int .u8 b, .int .u8 c, .int .u8 d, .int .u8 e, .int .u8 f] [.int .u8 a, .int .u8 b, .int .u8 c, .int .u8 d, .int .u8 e, .int .u8 f] = true := by simp [eqV]
theorem ifE6 {a b c d e f : Int} {X Y : Prop} (h : X) : if (eqV [.int .u8 a, .int .u8 b, .int .u8 c, .int .u8 d, .int .u8 e, .int .u8 f] [.int .u8 a, .int .u8 b, .int .u8 c, .int .u8 d, .int .u8 e, .int .u8 f]) = true then X else Y := by
  rw [if_pos (eqV_int6 ..)]
  exact h
def frOut (b : List Int) : Fr := if fBad b = 0 then ofF b else fz
theorem frOut_len (b : List Int) : (frOut b).body.length ≤ 65535 := by
  unfold frOut
  split
  · rename_i h
    have h1 := fBad_zero h
    show (b.drop 14).length ≤ _
    rw [List.length_drop]
    omega
  · exact Nat.zero_le _
theorem fr_out {w w' : World} {b : List Int} {e : Ending} (h : RetFr w b e w') : Bel w w' ∧ ∃ A c, e = .returned (.tuple #[.agg (fv (frOut b) A (frOut b).body.length c).toArray, .int .i64 (fBad b)]) ∧ By w' A (frOut b).body.length (frOut b).body ∧ Fre w A := by
  obtain ⟨k, h⟩ := h
  refine ⟨k, ?_⟩
  by_cases h0 : fBad b = 0
  · rw [if_pos h0] at h
    obtain ⟨g, rfl, H⟩ := h
    have e : frOut b = ofF b := by unfold frOut; rw [if_pos h0]
    rw [e, h0]
    have hl : (ofF b).body.length = b.length - 14 := List.length_drop
    exact ⟨_, _, by rw [hl], (H.bk 0 rfl).by, Fre.mk (H.ge 0 rfl)⟩
  · rw [if_neg h0] at h
    have e0 : frOut b = fz := by unfold frOut; rw [if_neg h0]
    rw [e0]
    exact ⟨none, 0, h, By.nil _ _, Fre.nil w⟩
theorem fr_out7 {w w' : World} {b : List Int} {e : Ending} (h : RetFr7 w b e w') : Bel w w' ∧ ∃ A c, e = .returned (.tuple #[.agg (fv (frOut b) A (frOut b).body.length c).toArray, .int .i64 (fBad b)]) ∧ By w' A (frOut b).body.length (frOut b).body := by
  obtain ⟨k, h⟩ := h
  refine ⟨k, ?_⟩
  by_cases h0 : fBad b = 0
  · rw [if_pos h0] at h
    obtain ⟨A, c, rfl, y, _⟩ := h
    have e : frOut b = ofF b := by unfold frOut; rw [if_pos h0]
    rw [e, h0]
    have hl : (ofF b).body.length = b.length - 14 := List.length_drop
    rw [hl]
    exact ⟨A, c, rfl, y⟩
  · rw [if_neg h0] at h
    have e0 : frOut b = fz := by unfold frOut; rw [if_neg h0]
    rw [e0]
    exact ⟨none, 0, h, By.nil _ _⟩
section
variable {w : World} {b : List Int} {I : Option Addr} {i j : Nat} {f : Fr} {A : Option Addr} {n c : Nat}
end
/-- The slice A[:n] holds lists of bytes; frames. -/
def Raws (w : World) (A : Option Addr) (n : Nat) : Prop := 0 < n → ∃ a, A = some a ∧ ∀ i, i < n → ∃ (b : List Int) (B : Option Addr) (m d : Nat), At w (a.add (i * 1)) [.slice B m d] ∧ By w B m b ∧ Bytes b ∧ m ≤ 90000000000000
def Frs (w : World) (A : Option Addr) (n : Nat) : Prop := 0 < n → ∃ a, A = some a ∧ ∀ i, i < n → ∃ (f : Fr) (B : Option Addr) (m d : Nat), At w (a.add (i * 14)) (fv f B m d) ∧ f.Fine ∧ By w B m f.body ∧ m ≤ 90000000000000
section
variable {w0 : World} {A : Option Addr} {n c : Nat} {B : Option Addr} {m d : Nat} (hs : Raws w0 A n) (hn : n ≤ 1000000000000000) (ht : Frs w0 B m) (hm : m ≤ 1000000000000000)
include hs hn ht hm
end
end Go.Proofs.YtphbdmafchjjeaaS
