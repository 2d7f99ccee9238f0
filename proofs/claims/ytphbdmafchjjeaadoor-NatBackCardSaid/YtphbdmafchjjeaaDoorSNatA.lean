/- Package nat: weights.
   Conditions: none. -/
import Derived.Test.YtphbdmafchjjeaaDoorSBuf
import Derived.Test.YtphbdmafchjjeaaDoorSFN
namespace Go.Proofs.YtphbdmafchjjeaaDoorS
open Go Go.RowKit Go.Proofs Go.Proofs.YtphbdmafchjjeaaDoorX
set_option maxRecDepth 100000
set_option linter.unusedVariables false
set_option linter.unusedSectionVars false
set_option linter.unusedSimpArgs false

/-- The lowest n bytes of v taken into a hash. -/
def mixV (h v : Int) : Nat → Int
  | 0 => h
  | i + 1 => mixV (IntKind.u64.wrap (Go.bits .xor .u64 h (IntKind.u64.wrap (Go.bits .and .u32 (Int.fdiv v ((2 : Int) ^ (min (8 * (i : Int)).toNat 32))) 255)) * 1099511628211)) v i
theorem mixed_l {v : Int} {w : World} : ∀ (n q : Nat) (h : Int), n < q → n ≤ 8 → nat_mixed.L1 q h v ((n : Int) - 1) w (fun e w' => e = .returned (.int .u64 (mixV h v n)) ∧ w' = w) := by
  intro n
  induction n with
  | zero =>
    intro q h hq _
    obtain ⟨q, rfl⟩ : ∃ q', q = q' + 1 := ⟨q - 1, by omega⟩
    unfold nat_mixed.L1; intros
    rw [nat_mixed.l1_eq]
    refine ifD (fun h1 => by omega) (fun _ => ⟨rfl, rfl⟩)
  | succ n ih =>
    intro q h hq hn
    obtain ⟨q, rfl⟩ : ∃ q', q = q' + 1 := ⟨q - 1, by omega⟩
    unfold nat_mixed.L1; intros
    rw [nat_mixed.l1_eq]
    refine ifD (fun h1 => ?_) (fun h1 => by omega)
    refine let_as (8 * (n : Int)) (by rw [w64 (by omega) (by omega)]; omega) ?_
    refine ⟨by omega, ?_⟩
    refine let_id (let_id (let_id (let_id (let_id ?_))))
    refine let_as ((n : Int) - 1) (by rw [w64 (by omega) (by omega)]; omega) ?_
    have kk : nat_mixed.L1 q (IntKind.u64.wrap (Go.bits .xor .u64 h (IntKind.u64.wrap (Go.bits .and .u32 (Int.fdiv v ((2 : Int) ^ (min (8 * (n : Int)).toNat 32))) 255)) * 1099511628211)) v ((n : Int) - 1) w (fun e w' => e = .returned (.int .u64 (mixV h v (n + 1))) ∧ w' = w) := ih q (IntKind.u64.wrap (Go.bits .xor .u64 h (IntKind.u64.wrap (Go.bits .and .u32 (Int.fdiv v ((2 : Int) ^ (min (8 * (n : Int)).toNat 32))) 255)) * 1099511628211)) (by omega) (by omega)
    with_reducible apply kk
theorem mixed_c (w : World) (h v : Int) {k : Int} (n : Nat) (hk : k = (n : Int)) (hn : n ≤ 8) : Calls Tryd.prog 70 #[.int .u64 h, .int .u32 v, .int .i64 k] w (fun e w' => e = .returned (.int .u64 (mixV h v n)) ∧ w' = w) := by
  subst hk
  refine nat_mixed.run ?_
  unfold nat_mixed.s
  refine let_as ((n : Int) - 1) (w64 (by omega) (by omega)) ?_
  refine ⟨n + 1, ?_⟩
  have kk := mixed_l (v := v) (w := w) n (n + 1) h (by omega) hn
  with_reducible apply kk
/-- A flow. -/
structure Tp where
  src : Int
  dst : Int
  proto : Int
  sp : Int
  dp : Int
def tpv (t : Tp) : List Value := [.int .u32 t.src, .int .u32 t.dst, .int .u8 t.proto, .int .u16 t.sp, .int .u16 t.dp]
def lastV (h : Int) : Int := Go.bits .xor .u64 (IntKind.u64.wrap (Go.bits .xor .u64 h (Int.fdiv h 4294967296) * 11400714819323198485)) (Int.fdiv (IntKind.u64.wrap (Go.bits .xor .u64 h (Int.fdiv h 4294967296) * 11400714819323198485)) 536870912)
/-- A backend's weight for a flow. -/
def weightV (t : Tp) (a p : Int) : Int := lastV (mixV (mixV (mixV (mixV (mixV (mixV (mixV 14695981039346656037 t.src 4) t.dst 4) (IntKind.u32.wrap t.proto) 1) (IntKind.u32.wrap t.sp) 2) (IntKind.u32.wrap t.dp) 2) a 4) (IntKind.u32.wrap p) 2)
theorem weight_c (w : World) (t : Tp) (a p : Int) : Calls Tryd.prog 40 #[.agg (tpv t).toArray, .agg #[.int .u32 a, .int .u16 p]] w (Ret (.int .u64 (weightV t a p)) w) := by
  refine nat_weight.run ?_
  unfold nat_weight.s
  refine own_new (l := tpv t) (Own.refl w) fun g1 w1 H => ?_
  refine own_new (l := [.int .u32 a, .int .u16 p]) H fun g3 w4 H => ?_
  refine ⟨_, H.cell 1 0 rfl rfl, ?_⟩
  refine call_of (mixed_c w4 _ _ 4 rfl (by decide)) ?_
  rintro e w5 ⟨rfl, rfl⟩
  refine ⟨_, rfl, _, H.cell 1 1 rfl rfl, ?_⟩
  refine call_of (mixed_c _ _ _ 4 rfl (by decide)) ?_
  rintro e w5 ⟨rfl, rfl⟩
  refine ⟨_, rfl, _, H.cell 1 2 rfl rfl, let_id ?_⟩
  refine call_of (mixed_c _ _ _ 1 rfl (by decide)) ?_
  rintro e w5 ⟨rfl, rfl⟩
  refine ⟨_, rfl, _, H.cell 1 3 rfl rfl, let_id ?_⟩
  refine call_of (mixed_c _ _ _ 2 rfl (by decide)) ?_
  rintro e w5 ⟨rfl, rfl⟩
  refine ⟨_, rfl, _, H.cell 1 4 rfl rfl, let_id ?_⟩
  refine call_of (mixed_c _ _ _ 2 rfl (by decide)) ?_
  rintro e w5 ⟨rfl, rfl⟩
  refine ⟨_, rfl, _, H.cell 0 0 rfl rfl, ?_⟩
  refine call_of (mixed_c _ _ _ 4 rfl (by decide)) ?_
  rintro e w5 ⟨rfl, rfl⟩
  refine ⟨_, rfl, _, H.cell 0 1 rfl rfl, let_id ?_⟩
  refine call_of (mixed_c _ _ _ 2 rfl (by decide)) ?_
  rintro e w5 ⟨rfl, rfl⟩
  exact ⟨_, rfl, let_id (let_id (let_id (let_id (let_id ⟨rfl, H.bel⟩))))⟩
end Go.Proofs.YtphbdmafchjjeaaDoorS
