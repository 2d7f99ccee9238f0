/- Package weftlaw7: its small functions, and TunnelDatagrams.
   Conditions: the arguments are as a row's arguments are. -/
import Derived.Test.YtphbdmafchjjeaaSRef7
import Derived.Test.YtphbdmafchjjeaaSFV
namespace Go.Proofs.YtphbdmafchjjeaaS
open Go Go.RowKit Go.Proofs Go.Proofs.YtphbdmafchjjeaaX
set_option maxRecDepth 100000
set_option linter.unusedVariables false
set_option linter.unusedSimpArgs false

/-- yes, and all that stood as it was -/
abbrev Yes (w : World) : Ending → World → Prop := Ret (.bool true) w
theorem same_l (w0 : World) {A B : Option Addr} {n c d : Nat} {l : List Int} (hA : By w0 A n l) (hB : By w0 B n l) (hn : n ≤ 100000000000000) : ∀ (q i : Nat) (w : World), n - i < q → i ≤ n → Bel w0 w →
    weftlaw7_same.L1 q A n c B n d (i : Int) w (Yes w0) := by
  intro q
  induction q with
  | zero => intro i w h; omega
  | succ q ih =>
    intro i w hq hi hb
    unfold weftlaw7_same.L1; intros
    rw [weftlaw7_same.l1_eq]
    refine ifD (fun h => ?_) (fun h => ⟨rfl, hb⟩)
    refine draws (fun w' => Bel w0 w') hb.drew fun w2 e2 => ?_
    have hb2 : Bel w0 w2 := by rw [e2]; exact hb.drew
    refine hA.rdS (fun w' k => k) (by omega) (by omega) fun _ => ?_
    refine hB.rdS (fun w' k => k) (by omega) (by omega) fun _ => ?_
    refine ifN (fun h => absurd rfl h) (fun _ => ?_)
    refine let_as ((i + 1 : Nat) : Int) (by rw [w64 (by omega) (by omega)]; omega) ?_
    apply ih (i + 1) w2 (by omega) (by omega) hb2
theorem same_t {w : World} {A B : Option Addr} {n c m d : Nat} {l : List Int} (hA : By w A n l) (hB : By w B m l) (hn : n ≤ 100000000000000) : Calls Try.prog 13 #[.slice A n c, .slice B m d] w (Yes w) := by
  have e : n = m := hA.len.symm.trans hB.len
  subst e
  refine weftlaw7_same.run ?_
  unfold weftlaw7_same.s
  refine ifN (fun h => absurd rfl h) (fun _ => ⟨n + 1, ?_⟩)
  apply same_l w hA hB hn (n + 1) 0 w (by omega) (by omega) (Bel.refl w)
/-- What stands in the spare room. -/
def marks : List Int := (List.range 70).map fun i => ((181 + i : Nat) : Int)
theorem marks_len : marks.length = 70 := by simp [marks]
theorem marks_get {i : Nat} (h : i < 70) : marks.take i ++ [((181 + i : Nat) : Int)] = marks.take (i + 1) := by
  have hl := marks_len
  rw [List.take_succ_eq_append_getElem (by omega)]
  simp [marks]
theorem begun_bytes : uBytes 0 0 1 2 [] true = [0, 1, 0, 2, 0, 8, 255, 219] := by decide +kernel
theorem begun_t (w : World) : Calls Try.prog 4 #[] w (Yes w) := by
  refine weftlaw7_begun.run ?_
  unfold weftlaw7_begun.s
  refine call_of (BuildUDP_c (sp := 1) (dp := 2) (by decide) (by decide) (by decide) (by decide) (By.nil w none) Bytes.nil true) ?_
  rintro e w1 ⟨_, he⟩
  obtain ⟨g, rfl, H⟩ := he (by decide)
  rw [begun_bytes] at H ⊢
  have y := (H.bk 0 rfl).by
  refine ⟨_, 8, _, _, rfl, ?_⟩
  refine ifE (fun _ => ?_) (fun h => absurd rfl h)
  refine ifE (fun _ => ?_) (fun h => absurd rfl h)
  refine y.rdk 1 rfl (by decide) fun _ => ?_
  refine ifE (fun _ => ?_) (fun h => absurd rfl h)
  refine y.rdk 3 rfl (by decide) fun _ => ?_
  refine ifE (fun _ => ?_) (fun h => absurd rfl h)
  refine y.rdk 5 rfl (by decide) fun _ => ?_
  refine ifE (fun _ => ?_) (fun h => absurd rfl h)
  refine y.rdk 6 rfl (by decide) fun _ => ?_
  refine ifE (fun _ => ?_) (fun h => absurd rfl h)
  refine y.rdk 7 rfl (by decide) fun _ => ?_
  exact ⟨rfl, H.bel⟩

/-! ### datagrams -/
def dgOut (src dst : Int) (b : List Int) : Int × Int × List Int := if uBad src dst b = 0 then (wd b 0, wd b 2, uBody b) else (0, 0, [])
theorem dg_out {w w' : World} {src dst : Int} {b : List Int} {e : Ending} (h : RetDg w src dst b e w') : Bel w w' ∧ ∃ A c, e = .returned (.tuple #[.agg (dv (dgOut src dst b).1 (dgOut src dst b).2.1 A (dgOut src dst b).2.2.length c).toArray, .int .i64 (uBad src dst b)]) ∧ By w' A (dgOut src dst b).2.2.length (dgOut src dst b).2.2 ∧ Fre w A := by
  obtain ⟨k, h⟩ := h
  refine ⟨k, ?_⟩
  by_cases h0 : uBad src dst b = 0
  · rw [if_pos h0] at h
    obtain ⟨g, rfl, H⟩ := h
    have e : dgOut src dst b = (wd b 0, wd b 2, uBody b) := by unfold dgOut; rw [if_pos h0]
    rw [e, h0]
    have hl := uBody_len h0
    exact ⟨_, _, by rw [hl], (H.bk 0 rfl).by, Fre.mk (H.ge 0 rfl)⟩
  · rw [if_neg h0] at h
    have e0 : dgOut src dst b = (0, 0, []) := by unfold dgOut; rw [if_neg h0]
    rw [e0]
    exact ⟨none, 0, h, By.nil _ _, Fre.nil w⟩
theorem dg_out7 {w w' : World} {src dst : Int} {b : List Int} {e : Ending} (h : RetDg7 w src dst b e w') : Bel w w' ∧ ∃ A c, e = .returned (.tuple #[.agg (dv (dgOut src dst b).1 (dgOut src dst b).2.1 A (dgOut src dst b).2.2.length c).toArray, .int .i64 (uBad src dst b)]) ∧ By w' A (dgOut src dst b).2.2.length (dgOut src dst b).2.2 := by
  obtain ⟨k, h⟩ := h
  refine ⟨k, ?_⟩
  by_cases h0 : uBad src dst b = 0
  · rw [if_pos h0] at h
    obtain ⟨A, c, rfl, y, _⟩ := h
    have e : dgOut src dst b = (wd b 0, wd b 2, uBody b) := by unfold dgOut; rw [if_pos h0]
    rw [e, h0]
    have hl := uBody_len h0
    simp only
    rw [hl]
    exact ⟨A, c, rfl, y⟩
  · rw [if_neg h0] at h
    have e0 : dgOut src dst b = (0, 0, []) := by unfold dgOut; rw [if_neg h0]
    rw [e0]
    exact ⟨none, 0, h, By.nil _ _⟩
theorem dgOut_len (src dst : Int) (b : List Int) : (dgOut src dst b).2.2.length ≤ 65535 := by
  unfold dgOut
  split
  · rename_i h
    have h1 := uBad_zero h
    have h2 := uBody_len h
    show (uBody b).length ≤ _
    omega
  · exact Nat.zero_le _
structure Item where
  src : Int
  dst : Int
  sp : Int
  dp : Int
  body : List Int
  on : Bool
  raw : List Int
structure Item.Fine (x : Item) : Prop where
  src : 0 ≤ x.src ∧ x.src ≤ 4294967295
  dst : 0 ≤ x.dst ∧ x.dst ≤ 4294967295
  sp : 0 ≤ x.sp ∧ x.sp ≤ 65535
  dp : 0 ≤ x.dp ∧ x.dp ≤ 65535
  body : Bytes x.body
  raw : Bytes x.raw
  lb : x.body.length ≤ 90000000000000
  lr : x.raw.length ≤ 90000000000000
def iv (x : Item) (A : Option Addr) (n c : Nat) (B : Option Addr) (m d : Nat) : List Value := [.int .u32 x.src, .int .u32 x.dst] ++ (dv x.sp x.dp A n c ++ [.bool x.on, .slice B m d])
structure ItAt (w : World) (x : Item) (A : Option Addr) (n c : Nat) (B : Option Addr) (m d : Nat) : Prop where
  body : By w A n x.body
  raw : By w B m x.raw
theorem ItAt.bel {w w' : World} {x : Item} {A : Option Addr} {n c : Nat} {B : Option Addr} {m d : Nat} (h : ItAt w x A n c B m d) (k : Bel w w') : ItAt w' x A n c B m d := ⟨h.body.bel k, h.raw.bel k⟩
section
variable {w : World} {x : Item} (hf : x.Fine) {A : Option Addr} {n c : Nat} {B : Option Addr} {m d : Nat} (hx : ItAt w x A n c B m d)
include hf hx
end
/-- The slice A[:n] holds items. -/
def Its (w : World) (A : Option Addr) (n : Nat) : Prop := 0 < n → ∃ a, A = some a ∧ ∀ i, i < n → ∃ (x : Item) (A : Option Addr) (n c : Nat) (B : Option Addr) (m d : Nat), At w (a.add (i * 7)) (iv x A n c B m d) ∧ x.Fine ∧ ItAt w x A n c B m d
theorem At.bel {w w' : World} {a : Addr} {l : List Value} (h : At w a l) (k : Bel w w') : At w' a l := fun j u hu => k.cellb (h j u hu)
end Go.Proofs.YtphbdmafchjjeaaS
