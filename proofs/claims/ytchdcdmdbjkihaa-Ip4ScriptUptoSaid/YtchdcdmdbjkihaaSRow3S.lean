/- Ip4Script's arguments.
   Conditions: none; every statement is proved here. -/
import Derived.Test.YtchdcdmdbjkihaaSRow3
import Derived.Test.YtchdcdmdbjkihaaSISF
namespace Go.Proofs.YtchdcdmdbjkihaaS
open Go Go.RowKit Go.Proofs Go.Proofs.YtchdcdmdbjkihaaX Go.Proofs.Ytchdcdmdbjkihaa
set_option linter.unusedVariables false
theorem ints_ofB {H : Type} {w : World} {A : Option Addr} {n c : Nat} {d : DataW H} (h : KSl 1 8 (KInt .i64) w [.slice A n c] d) (hb : Rows.uptoBulk d ≤ 1048576) : Nums w A n ∧ n ≤ 1000000000000 := by
  rcases h with ⟨e, rfl⟩ | ⟨a, len, cap, D, rest, e, rfl, hl, hD, hB, hel⟩
  · obtain ⟨rfl, rfl, rfl⟩ := slice_one e
    exact ⟨fun h => by omega, by omega⟩
  · obtain ⟨rfl, rfl, rfl⟩ := slice_one e
    have hbl := bulk_len D
    simp only [Rows.uptoBulk] at hb
    refine ⟨fun _ => ⟨a, rfl, fun i hi => ?_⟩, by omega⟩
    obtain ⟨cs', x, hx0, hat, ⟨v, rfl, _, fv⟩⟩ := hel i hi
    have := hat 0 _ rfl
    rw [Nat.mul_one, addr_add_zero] at this
    exact ⟨v, this, wf_i64 fv⟩
end Go.Proofs.YtchdcdmdbjkihaaS
