/- Package weftlaw23: right: is a packet's own sum right?
   Conditions: a packet's fields are of their kinds; it carries no more than 65535 bytes. -/
import Derived.Test.YtphbdmafchjjeaaDoorHSNatV
import Derived.Test.YtphbdmafchjjeaaDoorHSTun
import Derived.Test.YtphbdmafchjjeaaDoorHSIcmpB
namespace Go.Proofs.YtphbdmafchjjeaaDoorS
open Go Go.RowKit Go.Proofs Go.Proofs.YtphbdmafchjjeaaDoorX
set_option maxRecDepth 100000
set_option linter.unusedVariables false
set_option linter.unusedSectionVars false
set_option linter.unusedSimpArgs false

def rightV (p : Pk) : Bool := if p.proto = 17 then decide (uBad p.src p.dst p.body = 0) else if p.proto = 1 then decide (icBad p.body = 0) else decide (S (tot true (psh p.src p.dst p.proto (p.body.length : Int) ++ p.body)) = 65535)
def pshL (src dst pr n : Int) : List Int := [src / 16777216 % 256, src / 65536 % 256, src / 256 % 256, src % 256, dst / 16777216 % 256, dst / 65536 % 256, dst / 256 % 256, dst % 256, 0, pr, n / 256 % 256, n % 256]
theorem psh_eq (src dst pr n : Int) : psh src dst pr n = pshL src dst pr n := by
  unfold psh pshL
  rw [be4, be4, be2]
  rfl
theorem pshL_bytes {src dst pr n : Int} (h : 0 ≤ pr ∧ pr ≤ 255) : Bytes (pshL src dst pr n) := by
  unfold pshL
  refine Bytes.cons (by omega) (Bytes.cons (by omega) (Bytes.cons (by omega) (Bytes.cons (by omega) (Bytes.cons (by omega) (Bytes.cons (by omega) (Bytes.cons (by omega) (Bytes.cons (by omega) (Bytes.cons (by omega) (Bytes.cons h (Bytes.cons (by omega) (Bytes.cons (by omega) Bytes.nil)))))))))))
theorem right_c {w : World} {p : Pk} (h : p.Fine) {A : Option Addr} {n c : Nat} {B : Option Addr} {m d : Nat} (hp : PkAt w p A n c B m d) (hm : m ≤ 65535) : Calls Tryd.prog 32 #[.agg (pb p A n c B m d).toArray] w (Ret (.bool (rightV p)) w) := by
  have hl := hp.body.len
  refine weftlaw23_right.run ?_
  unfold weftlaw23_right.s
  refine own_new (l := pb p A n c B m d) (Own.refl w) fun g1 w2 H => ?_
  refine ld_head10 (H.bk 0 rfl) ?_
  refine own_mk (hv 0 0 false false 0 0 0 0 0 none 0 0) (vs := pv p A n c) H rfl rfl fun g13 w15 H k _ => ?_
  refine ⟨p.proto, H.cell 0 6 rfl rfl, ?_⟩
  unfold rightV
  refine ifE (fun h1 => ?_) (fun h1 => ?_)
  · rw [if_pos h1]
    refine ⟨p.src, H.cell 0 7 rfl rfl, p.dst, H.cell 0 8 rfl rfl, B, m, d, H.cell 1 10 rfl rfl, ?_⟩
    refine call_of (ParseUDP_c h.src h.dst (hp.body.bel H.bel) h.body hp.cb) ?_
    rintro e w20 ⟨k2, hR⟩
    by_cases h0 : uBad p.src p.dst p.body = 0
    · rw [if_pos h0] at hR
      obtain ⟨g, rfl, _⟩ := hR
      refine ⟨_, _, _, _, _, _, rfl, ?_⟩
      refine own_mk (dv 0 0 none 0 0) (vs := dv _ _ _ _ _) (H.call k2) rfl rfl fun g26 w28 H2 _ _ => ?_
      rw [decide_eq_true h0]
      exact ⟨rfl, H2.bel⟩
    · rw [if_neg h0] at hR
      subst hR
      refine ⟨_, _, _, _, _, _, rfl, ?_⟩
      refine own_mk (dv 0 0 none 0 0) (vs := dv _ _ _ _ _) (H.call k2) rfl rfl fun g26 w28 H2 _ _ => ?_
      rw [decide_eq_false h0, show (uBad p.src p.dst p.body == 0) = false by simpa using h0]
      exact ⟨rfl, H2.bel⟩
  rw [if_neg h1]
  refine ifE (fun h2 => ?_) (fun h2 => ?_)
  · rw [if_pos h2]
    refine ⟨B, m, d, H.cell 1 10 rfl rfl, ?_⟩
    refine call_of (Parse_c (hp.body.bel H.bel) h.body hp.cb) ?_
    rintro e w30 ⟨k2, hR⟩
    by_cases h0 : icBad p.body = 0
    · rw [if_pos h0] at hR
      obtain ⟨A', c', rfl, _⟩ := hR
      refine ⟨_, _, _, _, _, _, _, rfl, ?_⟩
      refine own_mk (mv 0 0 0 none 0 0) (vs := mv _ _ _ _ _ _) (H.call k2) rfl rfl fun g26 w28 H2 _ _ => ?_
      rw [decide_eq_true h0]
      exact ⟨rfl, H2.bel⟩
    · rw [if_neg h0] at hR
      subst hR
      refine ⟨_, _, _, _, _, _, _, rfl, ?_⟩
      refine own_mk (mv 0 0 0 none 0 0) (vs := mv _ _ _ _ _ _) (H.call k2) rfl rfl fun g26 w28 H2 _ _ => ?_
      rw [decide_eq_false h0, show (icBad p.body == 0) = false by simpa using h0]
      exact ⟨rfl, H2.bel⟩
  rw [if_neg h2]
  refine ⟨B, m, d, H.cell 1 10 rfl rfl, ?_⟩
  refine ⟨p.src, H.cell 0 7 rfl rfl, let_as (p.src / 16777216) (fd _ (by decide)) (let_as (p.src / 16777216 % 256) (by rw [IntKind.wrap_u8]) ?_)⟩
  refine ⟨p.src, H.cell 0 7 rfl rfl, let_as (p.src / 65536) (fd _ (by decide)) (let_as (p.src / 65536 % 256) (by rw [IntKind.wrap_u8]) ?_)⟩
  refine ⟨p.src, H.cell 0 7 rfl rfl, let_as (p.src / 256) (fd _ (by decide)) (let_as (p.src / 256 % 256) (by rw [IntKind.wrap_u8]) ?_)⟩
  refine ⟨p.src, H.cell 0 7 rfl rfl, let_as (p.src % 256) (by rw [IntKind.wrap_u8]) ?_⟩
  refine ⟨p.dst, H.cell 0 8 rfl rfl, let_as (p.dst / 16777216) (fd _ (by decide)) (let_as (p.dst / 16777216 % 256) (by rw [IntKind.wrap_u8]) ?_)⟩
  refine ⟨p.dst, H.cell 0 8 rfl rfl, let_as (p.dst / 65536) (fd _ (by decide)) (let_as (p.dst / 65536 % 256) (by rw [IntKind.wrap_u8]) ?_)⟩
  refine ⟨p.dst, H.cell 0 8 rfl rfl, let_as (p.dst / 256) (fd _ (by decide)) (let_as (p.dst / 256 % 256) (by rw [IntKind.wrap_u8]) ?_)⟩
  refine ⟨p.dst, H.cell 0 8 rfl rfl, let_as (p.dst % 256) (by rw [IntKind.wrap_u8]) ?_⟩
  refine ⟨p.proto, H.cell 0 6 rfl rfl, ?_⟩
  refine let_as ((m : Int) / 256) (fd _ (by decide)) (let_as ((m : Int) / 256 % 256) (by rw [IntKind.wrap_u8]) (let_as ((m : Int) % 256) (by rw [IntKind.wrap_u8]) ?_))
  refine own_new (l := bv (pshL p.src p.dst p.proto (m : Int))) H fun g67 w68 H => ?_
  refine ⟨B, m, d, H.cell 2 10 rfl rfl, ?_⟩
  refine own_new (l := [.slice (some ⟨g67, 0, none⟩) 12 12, .slice B m d]) H fun g70 w71 H => ?_
  refine call_of (sum2_c (H.bk 0 rfl) (H.bk 1 rfl).by (hp.body.bel H.bel) (pshL_bytes h.proto) h.body (by show 12 + p.body.length ≤ _; omega) 2) ?_
  rintro e w72 ⟨rfl, k3⟩
  refine ⟨_, rfl, ?_⟩
  rw [psh_eq, hl]
  refine ⟨?_, Bel.trans H.bel k3⟩
  by_cases h3 : S (tot true (pshL p.src p.dst p.proto (m : Int) ++ p.body)) = 65535
  · rw [decide_eq_true h3, h3]
    rfl
  · rw [decide_eq_false h3, show ((65535 - S (tot true (pshL p.src p.dst p.proto (m : Int) ++ p.body)) : Int) == 0) = false from beq_eq_false_iff_ne.2 (by omega)]
end Go.Proofs.YtphbdmafchjjeaaDoorS
