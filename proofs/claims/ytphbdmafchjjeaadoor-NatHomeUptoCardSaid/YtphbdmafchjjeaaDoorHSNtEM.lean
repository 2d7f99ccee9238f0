/- Package nat: TurnFault: what it answers, plain.
   Conditions: bytes are 0 to 255; a packet's fields are of their kinds. -/
import Derived.Test.YtphbdmafchjjeaaDoorHSNtD
import Derived.Test.YtphbdmafchjjeaaDoorHSIcmpC
import Derived.Test.YtphbdmafchjjeaaDoorHSBase
namespace Go.Proofs.YtphbdmafchjjeaaDoorS
open Go Go.RowKit Go.Proofs Go.Proofs.YtphbdmafchjjeaaDoorX
set_option maxRecDepth 100000
set_option linter.unusedVariables false
set_option linter.unusedSectionVars false
set_option linter.unusedSimpArgs false

/-- What a fault carries; the quoted head; what is quoted behind it; the quoted packet's tuple. -/
def tfB (p : Pk) : List Int := p.body.drop 8
def tfH (p : Pk) : Pk := ofB (tfB p)
def tfQ (p : Pk) : List Int := ((tfB p).take (there (tfB p))).drop (hlen (tfB p))
def tfS (p : Pk) : Tp := quT (tfH p) (tfQ p)
/-- Why a fault is not turned; 0: it is. -/
def tfE (p : Pk) (u : Tp) : Int := if aboutE p ≠ 0 then aboutE p else if mayT (p.body.getD 0 0) = false ∨ quB (tfH p) (tfQ p) = false ∨ u.proto ≠ (tfS p).proto ∨ ((tfS p).proto = 1 ∧ u.sp ≠ u.dp) then 230 else 0
def tf2 (p : Pk) (u : Tp) : List Int := setw (setw (setw (setw (tfB p) 12 (u.src / 65536)) 14 (u.src % 65536)) 16 (u.dst / 65536)) 18 (u.dst % 65536)
def tf3 (p : Pk) (u : Tp) : List Int := setw (tf2 p u) 10 (65535 - S (tot true ((tf2 p u).take 10 ++ ((tf2 p u).take (hlen (tfB p))).drop 12)))
def tf4 (p : Pk) (u : Tp) : List Int := (tf3 p u).take (hlen (tfB p)) ++ (carV (((tf3 p u).drop (hlen (tfB p))).take (tfQ p).length) (tfS p).proto (tfS p) u false ++ (tf3 p u).drop (hlen (tfB p) + (tfQ p).length))
def tfI (p : Pk) (u : Tp) : Ic := ⟨p.body.getD 0 0, p.body.getD 1 0, lg p.body 4, tf4 p u⟩
def tfP (p : Pk) (u : Tp) (src dst : Int) : Pk := { p with src := src, dst := dst, body := (tfI p u).bytes (tfI p u).sum }
def tfO (p : Pk) (u : Tp) (src dst : Int) : Pk := if tfE p u = 0 then tfP p u src dst else pz
theorem tf2_len (p : Pk) (u : Tp) : (tf2 p u).length = (tfB p).length := by
  unfold tf2
  rw [setw_len, setw_len, setw_len, setw_len]
theorem tf3_len (p : Pk) (u : Tp) : (tf3 p u).length = (tfB p).length := by
  unfold tf3
  rw [setw_len, tf2_len]
theorem tf2_bytes {p : Pk} (h : Bytes (tfB p)) {u : Tp} (hu : u.Fine) : Bytes (tf2 p u) := by
  have h1 := hu.src
  have h2 := hu.dst
  unfold tf2
  exact setw_bytes (setw_bytes (setw_bytes (setw_bytes h 12 (by omega)) 14 (by omega)) 16 (by omega)) 18 (by omega)
theorem tf3_bytes {p : Pk} (h : Bytes (tfB p)) {u : Tp} (hu : u.Fine) : Bytes (tf3 p u) := by
  have h2 := tf2_bytes h hu
  have hS := S_range (tot_nonneg (b := true) ((h2.take 10).append ((h2.take (hlen (tfB p))).drop 12)))
  unfold tf3
  exact setw_bytes h2 10 (by omega)
/-- A list and its room in a block of bytes: what stands before it and behind it. -/
theorem rm_part {w : World} {A : Option Addr} {n c : Nat} {l : List Int} (r : Rm w A c) (y : By w A n l) (h0 : 0 < n) (hc : n ≤ c) : ∃ g f pre post, A = some ⟨g, f, none⟩ ∧ pre.length = f ∧ Bk w g 5 (bv (pre ++ (l ++ post))) := by
  have ln := y.len
  rcases r with ⟨_, rfl⟩ | ⟨g, f, X, rfl, hb, hl, _⟩
  · omega
  refine ⟨g, f, X.take f, X.drop (f + n), rfl, by rw [List.length_take]; omega, ?_⟩
  obtain ⟨a, ea, hcell⟩ := y.2 h0
  injection ea with ea
  subst ea
  have e : l = (X.drop f).take n := by
    apply List.ext_getElem?
    intro i
    by_cases hi : i < n
    · have h1 := hcell i hi
      rw [add_blk] at h1
      have h2 := hb.cell (f + i) (v := .int .u8 (X.getD (f + i) 0)) (by
        unfold bv
        rw [List.getElem?_map, List.getElem?_eq_getElem (by omega), List.getD_eq_getElem?_getD, List.getElem?_eq_getElem (by omega)]
        rfl)
      have h3 := h1.symm.trans h2
      injection h3 with h3
      injection h3 with _ h3
      rw [List.getElem?_take_of_lt hi, List.getElem?_drop, List.getElem?_eq_getElem (by omega), List.getElem?_eq_getElem (by omega)]
      rw [List.getD_eq_getElem?_getD, List.getD_eq_getElem?_getD, List.getElem?_eq_getElem (by omega), List.getElem?_eq_getElem (by omega)] at h3
      exact congrArg some h3
    · rw [List.getElem?_eq_none (by omega), List.getElem?_eq_none (by rw [List.length_take]; omega)]
  have e2 : X.take f ++ (l ++ X.drop (f + n)) = X := by
    rw [e]
    have h1 := List.take_append_drop n (X.drop f)
    rw [List.drop_drop] at h1
    rw [h1, List.take_append_drop]
  rw [e2]
  exact hb
end Go.Proofs.YtphbdmafchjjeaaDoorS
namespace Go.Proofs.YtphbdmafchjjeaaDoorS
open Go Go.Proofs
set_option maxRecDepth 100000
set_option linter.unusedVariables false
/-! ### bits_TrailingZeros64: function 43 -/
def bits_TrailingZeros64.ords : Nat → Od
  | _ => .nil
def bits_TrailingZeros64.joins (p : List Nat) : Bool := false
def bits_TrailingZeros64.s (i0 : Int) (w : World) (R : Ending → World → Prop) : Prop :=
((if (i0 == 0) = true then
(R (.returned (.int .i64 64)) w)
else
(Let (IntKind.u64.wrap (0 - i0)) fun x1 : Int =>
 Let (Go.bits .and .u64 i0 x1) fun x2 : Int =>
 Let (IntKind.u64.wrap (x2 * 285870213051353865)) fun x3 : Int =>
 Let (Int.fdiv x3 288230376151711744) fun x4 : Int =>
(0 ≤ (x4 : Int) ∧ (x4 : Int) < 64) ∧
(∃ x5 : Int, w.cell? ((⟨0, 0, none⟩ : Addr).add (mulS x4.toNat 1)) = some (.int .u8 x5) ∧
(Let (IntKind.i64.wrap x5) fun x6 : Int =>
 R (.returned (.int .i64 x6)) w)))))
theorem bits_TrailingZeros64.s_eq (i0 : Int) (w : World) (R : Ending → World → Prop) : seg Tryd.prog entE bits_TrailingZeros64.ords bits_TrailingZeros64.joins Tryd.f43 [] [] [] ([.int .u64 i0] ++ List.replicate (Tryd.f43.ntmps - ([.int .u64 i0] : List Value).length) undef) w R = bits_TrailingZeros64.s i0 w R := by kernel_rfl
theorem bits_TrailingZeros64.run {i0 : Int} {w : World} {R : Ending → World → Prop} (h : bits_TrailingZeros64.s i0 w R) : Calls Tryd.prog 43 #[.int .u64 i0] w R :=
  calls_seg ents mixed Tryd.func43 rfl (by rw [bits_TrailingZeros64.s_eq]; exact h)
end Go.Proofs.YtphbdmafchjjeaaDoorS
