/- A packet's record and its two lists; what Build of package ip4 answers, in one word for both ways.
   Conditions: bytes are 0 to 255, lists are no longer than memory lets. -/
import Derived.Test.YtphbdmafchjjeaaDoorHSIp4B
namespace Go.Proofs.YtphbdmafchjjeaaDoorS
open Go Go.RowKit Go.Proofs Go.Proofs.YtphbdmafchjjeaaDoorX
set_option maxRecDepth 100000
set_option linter.unusedVariables false
set_option linter.unusedSimpArgs false

structure PkAt (w : World) (p : Pk) (A : Option Addr) (n c : Nat) (B : Option Addr) (m d : Nat) : Prop where
  opts : By w A n p.opts
  body : By w B m p.body
  co : n ≤ c
  cb : m ≤ d
theorem PkAt.bel {w w' : World} {p : Pk} {A : Option Addr} {n c : Nat} {B : Option Addr} {m d : Nat} (h : PkAt w p A n c B m d) (k : Bel w w') : PkAt w' p A n c B m d := ⟨h.opts.bel k, h.body.bel k, h.co, h.cb⟩
theorem PkAt.but {w w' : World} {p : Pk} {A : Option Addr} {n c : Nat} {B : Option Addr} {m d : Nat} (h : PkAt w p A n c B m d) {g : Nat} (k : But g w w') (hA : ∀ a, A = some a → a.block ≠ g) (hB : ∀ a, B = some a → a.block ≠ g) : PkAt w' p A n c B m d :=
  ⟨h.opts.but k hA, h.body.but k hB, h.co, h.cb⟩
/-- A packet is answered, and why not. -/
def RetPk (w : World) (q : Pk) (k : Int) (e : Ending) (w' : World) : Prop :=
  ∃ A n c B m d, e = .returned (.tuple #[.agg (pb q A n c B m d).toArray, .int .i64 k]) ∧ PkAt w' q A n c B m d ∧ Fre w A ∧ Fre w B
def pz : Pk := ⟨0, 0, false, false, 0, 0, 0, 0, 0, [], []⟩
theorem pz_at (w : World) : PkAt w pz none 0 0 none 0 0 := ⟨By.nil _ _, By.nil _ _, Nat.le_refl _, Nat.le_refl _⟩
theorem ret_pz (w w' : World) (k : Int) : RetPk w pz k (.returned (.tuple #[.agg (pb pz none 0 0 none 0 0).toArray, .int .i64 k])) w' := ⟨_, _, _, _, _, _, rfl, pz_at w', Fre.nil w, Fre.nil w⟩
/-- A packet is answered whose lists lie in blocks of bytes. -/
def RetPkR (w : World) (q : Pk) (k : Int) (e : Ending) (w' : World) : Prop :=
  ∃ A n c B m d, e = .returned (.tuple #[.agg (pb q A n c B m d).toArray, .int .i64 k]) ∧ PkAt w' q A n c B m d ∧ Fre w A ∧ Fre w B ∧ Rm2 w' A c B d
theorem RetPkR.weak {w w' : World} {q : Pk} {k : Int} {e : Ending} (h : RetPkR w q k e w') : RetPk w q k e w' :=
  let ⟨A, n, c, B, m, d, h1, h2, h3, h4, _⟩ := h
  ⟨A, n, c, B, m, d, h1, h2, h3, h4⟩
theorem ret_pzR (w w' : World) (k : Int) : RetPkR w pz k (.returned (.tuple #[.agg (pb pz none 0 0 none 0 0).toArray, .int .i64 k])) w' := ⟨_, _, _, _, _, _, rfl, pz_at w', Fre.nil w, Fre.nil w, Rm2.none (Rm.nil _)⟩

/-- What ip4.Build answers, in one word for both ways. -/
theorem Build_e {w : World} {p : Pk} (h : p.Fine) {A : Option Addr} {n c : Nat} {B : Option Addr} {m d : Nat} (hp : PkAt w p A n c B m d) :
    Calls Tryd.prog 29 #[.agg (pb p A n c B m d).toArray] w (fun e w' => Bel w w' ∧ ∃ C i j, e = .returned (.tuple #[.slice C i j, .int .i64 p.err]) ∧ (p.err = 0 → i = p.tl ∧ By w' C i (p.bytes p.sum) ∧ i ≤ j ∧ Fre w C)) := by
  refine call_of (Build_c h hp.opts hp.body hp.co) ?_
  rintro e w' ⟨k, he⟩
  refine ⟨k, ?_⟩
  by_cases h0 : p.err = 0
  · rw [if_pos h0] at he
    obtain ⟨g, e1, hb, hg⟩ := he
    have := hb.by
    rw [Pk.bytes_len] at this e1
    exact ⟨_, _, _, by rw [h0]; exact e1, fun _ => ⟨rfl, this, Nat.le_refl _, Fre.mk hg⟩⟩
  · rw [if_neg h0] at he
    exact ⟨_, _, _, he, fun h => absurd h h0⟩
end Go.Proofs.YtphbdmafchjjeaaDoorS
