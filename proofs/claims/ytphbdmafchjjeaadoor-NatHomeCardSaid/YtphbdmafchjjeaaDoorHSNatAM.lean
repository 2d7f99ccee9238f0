/- Package nat: weights.
   Conditions: none. -/
import Derived.Test.YtphbdmafchjjeaaDoorHSBuf
import Derived.Test.YtphbdmafchjjeaaDoorHSFN
namespace Go.Proofs.YtphbdmafchjjeaaDoorS
open Go Go.RowKit Go.Proofs Go.Proofs.YtphbdmafchjjeaaDoorX
set_option maxRecDepth 100000
set_option linter.unusedVariables false
set_option linter.unusedSectionVars false
set_option linter.unusedSimpArgs false

/-- The lowest n bytes of v taken into a hash. -/
def mixV (h v : Int) : Nat → Int
  | 0 => h
  | i + 1 => mixV (IntKind.u64.wrap (Go.bits .xor .u64 h (IntKind.u64.wrap (Go.bits .and .u32 (Int.fdiv v ((2 : Int) ^ (min (8 * (i : Int)).toNat 32))) 255)) * 1099511628211)) v i
theorem mixed_l {v : Int} {w : World} : ∀ (n q : Nat) (h : Int), n < q → n ≤ 8 → nat_mixed.L1 q h v ((n : Int) - 1) w (fun e w' => e = .returned (.int .u64 (mixV h v n)) ∧ w' = w) := by
  intro n
  induction n with
  | zero =>
    intro q h hq _
    obtain ⟨q, rfl⟩ : ∃ q', q = q' + 1 := ⟨q - 1, by omega⟩
    unfold nat_mixed.L1; intros
    rw [nat_mixed.l1_eq]
    refine ifD (fun h1 => by omega) (fun _ => ⟨rfl, rfl⟩)
  | succ n ih =>
    intro q h hq hn
    obtain ⟨q, rfl⟩ : ∃ q', q = q' + 1 := ⟨q - 1, by omega⟩
    unfold nat_mixed.L1; intros
    rw [nat_mixed.l1_eq]
    refine ifD (fun h1 => ?_) (fun h1 => by omega)
    refine let_as (8 * (n : Int)) (by rw [w64 (by omega) (by omega)]; omega) ?_
    refine ⟨by omega, ?_⟩
    refine let_id (let_id (let_id (let_id (let_id ?_))))
    refine let_as ((n : Int) - 1) (by rw [w64 (by omega) (by omega)]; omega) ?_
    have kk : nat_mixed.L1 q (IntKind.u64.wrap (Go.bits .xor .u64 h (IntKind.u64.wrap (Go.bits .and .u32 (Int.fdiv v ((2 : Int) ^ (min (8 * (n : Int)).toNat 32))) 255)) * 1099511628211)) v ((n : Int) - 1) w (fun e w' => e = .returned (.int .u64 (mixV h v (n + 1))) ∧ w' = w) := ih q (IntKind.u64.wrap (Go.bits .xor .u64 h (IntKind.u64.wrap (Go.bits .and .u32 (Int.fdiv v ((2 : Int) ^ (min (8 * (n : Int)).toNat 32))) 255)) * 1099511628211)) (by omega) (by omega)
    with_reducible apply kk
theorem mixed_c (w : World) (h v : Int) {k : Int} (n : Nat) (hk : k = (n : Int)) (hn : n ≤ 8) : Calls Tryd.prog 70 #[.int .u64 h, .int .u32 v, .int .i64 k] w (fun e w' => e = .returned (.int .u64 (mixV h v n)) ∧ w' = w) := by
  subst hk
  refine nat_mixed.run ?_
  unfold nat_mixed.s
  refine let_as ((n : Int) - 1) (w64 (by omega) (by omega)) ?_
  refine ⟨n + 1, ?_⟩
  have kk := mixed_l (v := v) (w := w) n (n + 1) h (by omega) hn
  with_reducible apply kk
/-- A flow. -/
structure Tp where
  src : Int
  dst : Int
  proto : Int
  sp : Int
  dp : Int
def tpv (t : Tp) : List Value := [.int .u32 t.src, .int .u32 t.dst, .int .u8 t.proto, .int .u16 t.sp, .int .u16 t.dp]
def lastV (h : Int) : Int := Go.bits .xor .u64 (IntKind.u64.wrap (Go.bits .xor .u64 h (Int.fdiv h 4294967296) * 11400714819323198485)) (Int.fdiv (IntKind.u64.wrap (Go.bits .xor .u64 h (Int.fdiv h 4294967296) * 11400714819323198485)) 536870912)
/-- A backend's weight for a flow. -/
def weightV (t : Tp) (a p : Int) : Int := lastV (mixV (mixV (mixV (mixV (mixV (mixV (mixV 14695981039346656037 t.src 4) t.dst 4) (IntKind.u32.wrap t.proto) 1) (IntKind.u32.wrap t.sp) 2) (IntKind.u32.wrap t.dp) 2) a 4) (IntKind.u32.wrap p) 2)
theorem weight_c (w : World) (t : Tp) (a p : Int) : Calls Tryd.prog 40 #[.agg (tpv t).toArray, .agg #[.int .u32 a, .int .u16 p]] w (Ret (.int .u64 (weightV t a p)) w) := by
  refine nat_weight.run ?_
  unfold nat_weight.s
  refine own_new (l := tpv t) (Own.refl w) fun g1 w1 H => ?_
  refine own_new (l := [.int .u32 a, .int .u16 p]) H fun g3 w4 H => ?_
  refine ⟨_, H.cell 1 0 rfl rfl, ?_⟩
  refine call_of (mixed_c w4 _ _ 4 rfl (by decide)) ?_
  rintro e w5 ⟨rfl, rfl⟩
  refine ⟨_, rfl, _, H.cell 1 1 rfl rfl, ?_⟩
  refine call_of (mixed_c _ _ _ 4 rfl (by decide)) ?_
  rintro e w5 ⟨rfl, rfl⟩
  refine ⟨_, rfl, _, H.cell 1 2 rfl rfl, let_id ?_⟩
  refine call_of (mixed_c _ _ _ 1 rfl (by decide)) ?_
  rintro e w5 ⟨rfl, rfl⟩
  refine ⟨_, rfl, _, H.cell 1 3 rfl rfl, let_id ?_⟩
  refine call_of (mixed_c _ _ _ 2 rfl (by decide)) ?_
  rintro e w5 ⟨rfl, rfl⟩
  refine ⟨_, rfl, _, H.cell 1 4 rfl rfl, let_id ?_⟩
  refine call_of (mixed_c _ _ _ 2 rfl (by decide)) ?_
  rintro e w5 ⟨rfl, rfl⟩
  refine ⟨_, rfl, _, H.cell 0 0 rfl rfl, ?_⟩
  refine call_of (mixed_c _ _ _ 4 rfl (by decide)) ?_
  rintro e w5 ⟨rfl, rfl⟩
  refine ⟨_, rfl, _, H.cell 0 1 rfl rfl, let_id ?_⟩
  refine call_of (mixed_c _ _ _ 2 rfl (by decide)) ?_
  rintro e w5 ⟨rfl, rfl⟩
  exact ⟨_, rfl, let_id (let_id (let_id (let_id (let_id ⟨rfl, H.bel⟩))))⟩
end Go.Proofs.YtphbdmafchjjeaaDoorS
namespace Go.Proofs.YtphbdmafchjjeaaDoorS
open Go Go.RowKit Go.Proofs Go.Proofs.YtphbdmafchjjeaaDoorX
set_option maxRecDepth 100000
set_option linter.unusedVariables false
set_option linter.unusedSectionVars false
set_option linter.unusedSimpArgs false

/-- A[:n] holds these backends. -/
def Bks (w : World) (A : Option Addr) (n : Nat) (l : List (Int × Int)) : Prop := l.length = n ∧ (0 < n → ∃ a, A = some a ∧ ∀ i, i < n → At w (a.add (i * 2)) [.int .u32 (l.getD i (0, 0)).1, .int .u16 (l.getD i (0, 0)).2])
theorem Bks.bel {w w' : World} {A : Option Addr} {n : Nat} {l : List (Int × Int)} (h : Bks w A n l) (k : Bel w w') : Bks w' A n l :=
  ⟨h.1, fun hn => let ⟨a, e, hc⟩ := h.2 hn; ⟨a, e, fun i hi j u hu => k.cellb (hc i hi j u hu)⟩⟩
/-- From place j on: the best one so far b, of weight m. -/
def pickG (t : Tp) : List (Int × Int) → Nat → Nat → Int → Nat
  | [], _, b, _ => b
  | x :: r, j, b, m => if weightV t x.1 x.2 > m then pickG t r (j + 1) j (weightV t x.1 x.2) else pickG t r (j + 1) b m
def pickV (t : Tp) : List (Int × Int) → Nat
  | [] => 0
  | x :: r => pickG t r 1 0 (weightV t x.1 x.2)
def pickI (t : Tp) (l : List (Int × Int)) : Int := if l.length > 256 then 0 else if l.length = 0 then 0 else (pickV t l : Int)
def pickE (l : List (Int × Int)) : Int := if l.length > 256 then 2 else if l.length = 0 then 232 else 0
theorem Pick_l {w0 : World} {t : Tp} {A : Option Addr} {n c : Nat} {l : List (Int × Int)} (h : Bks w0 A n l) (hc : n ≤ c) (hn : n ≤ 1000) (h1 : 0 < n) {g2 : Nat} : ∀ (q i b : Nat) (m : Int) (w : World) (M : List (Nat × TypeId × List Value)), n - 1 - i < q → i ≤ n - 1 → Own w0 w (M ++ [(g2, 32, tpv t)]) →
    nat_Pick.L1 q g2 (b : Int) m (cutA A 1 c 2) (n - 1) (c - 1) ((n - 1 : Nat) : Int) (i : Int) w (Ret (.tuple #[.int .i64 (pickG t (l.drop (i + 1)) (i + 1) b m : Int), .int .i64 0]) w0) := by
  have hl := h.1
  intro q
  induction q with
  | zero => intro i b m w M h; omega
  | succ q ih =>
    intro i b m w M hq hi H
    unfold nat_Pick.L1; intros
    rw [nat_Pick.l1_eq]
    refine ifD (fun h2 => ?_) (fun h2 => ?_)
    · have hi2 : i + 1 < n := by omega
      obtain ⟨a, ea, hca⟩ := h.2 (by omega)
      have hat := hca (i + 1) hi2
      have hcut : cutA A 1 c 2 = some (a.add 2) := by
        unfold cutA
        rw [if_neg (by omega), ea]
        rfl
      rw [hcut]
      refine ⟨_, rfl, ⟨by omega, by omega⟩, ?_⟩
      rw [Int.toNat_natCast, add_add, show 2 + i * 2 = (i + 1) * 2 by omega]
      refine ⟨_, _, ⟨rfl, fun j u hu => H.bel.cellb (hat j u hu)⟩, ?_⟩
      refine own_mk [.int .u32 0, .int .u16 0] H rfl rfl fun g4 w6 H6 _ _ => ?_
      have hR : Own w0 w6 [(g2, 32, tpv t)] := Own.less (L := (g4, 28, [.int .u32 (l.getD (i + 1) (0, 0)).1, .int .u16 (l.getD (i + 1) (0, 0)).2]) :: M) H6
      refine ⟨_, _, _, _, _, ⟨rfl, (hR.bk 0 rfl).at⟩, ?_⟩
      refine ⟨_, _, ⟨rfl, (H6.bk 0 rfl).at⟩, ?_⟩
      refine call_of (weight_c w6 t (l.getD (i + 1) (0, 0)).1 (l.getD (i + 1) (0, 0)).2) ?_
      rintro e w7 ⟨rfl, k7⟩
      replace H6 := H6.call k7
      have ed : l.drop (i + 1) = l.getD (i + 1) (0, 0) :: l.drop (i + 2) := by
        rw [List.drop_eq_getElem_cons (by omega), List.getD_eq_getElem?_getD, List.getElem?_eq_getElem (by omega)]
        rfl
      have ei : IntKind.i64.wrap ((i : Int) + 1) = ((i + 1 : Nat) : Int) := by rw [w64 (by omega) (by omega)]; omega
      refine ⟨_, rfl, ?_⟩
      rw [ed]
      unfold pickG
      rw [← hcut]
      refine ifD (fun h3 => ?_) (fun h3 => ?_)
      · rw [if_pos h3]
        refine let_as _ ei (let_as _ ei ?_)
        have kk := ih (i + 1) (i + 1) (weightV t (l.getD (i + 1) (0, 0)).1 (l.getD (i + 1) (0, 0)).2) w7 ((g4, 28, [.int .u32 (l.getD (i + 1) (0, 0)).1, .int .u16 (l.getD (i + 1) (0, 0)).2]) :: M) (by omega) (by omega) H6
        with_reducible apply kk
      · rw [if_neg h3]
        refine let_as _ ei ?_
        have kk := ih (i + 1) b m w7 ((g4, 28, [.int .u32 (l.getD (i + 1) (0, 0)).1, .int .u16 (l.getD (i + 1) (0, 0)).2]) :: M) (by omega) (by omega) H6
        with_reducible apply kk
    · have e0 : l.drop (i + 1) = [] := List.drop_eq_nil_of_le (by omega)
      rw [e0]
      exact ⟨rfl, H.bel⟩
theorem Pick_c {w : World} {t : Tp} {A : Option Addr} {n c : Nat} {l : List (Int × Int)} (h : Bks w A n l) (hc : n ≤ c) : Calls Tryd.prog 22 #[.agg (tpv t).toArray, .slice A n c] w (Ret (.tuple #[.int .i64 (pickI t l), .int .i64 (pickE l)]) w) := by
  have hl := h.1
  refine nat_Pick.run ?_
  unfold nat_Pick.s
  refine own_new (l := tpv t) (Own.refl w) fun g1 w1 H => ?_
  refine ifD (fun h1 => ?_) (fun h1 => ?_)
  · have e1 : pickI t l = 0 := by unfold pickI; rw [if_pos (by omega)]
    have e2 : pickE l = 2 := by unfold pickE; rw [if_pos (by omega)]
    rw [e1, e2]
    exact ⟨rfl, H.bel⟩
  refine ifE (fun h2 => ?_) (fun h2 => ?_)
  · have e1 : pickI t l = 0 := by unfold pickI; rw [if_neg (by omega), if_pos (by omega)]
    have e2 : pickE l = 232 := by unfold pickE; rw [if_neg (by omega), if_pos (by omega)]
    rw [e1, e2]
    exact ⟨rfl, H.bel⟩
  have e1 : pickI t l = (pickV t l : Int) := by unfold pickI; rw [if_neg (by omega), if_neg (by omega)]
  have e2 : pickE l = 0 := by unfold pickE; rw [if_neg (by omega), if_neg (by omega)]
  rw [e1, e2]
  refine draws (fun w' => Own w w' [(g1, 32, tpv t)]) (H.call (Bel.refl w1).drew) fun w2 e2' => ?_
  replace H := H.call (Bel.refl w1).drew
  rw [← e2'] at H
  obtain ⟨a, ea, hca⟩ := h.2 (by omega)
  have hat := hca 0 (by omega)
  rw [Nat.zero_mul, addr_add_zero] at hat
  refine ⟨_, _, _, _, _, ⟨rfl, fun w' h => (h.bk 0 rfl).at⟩, a, ea, ⟨by omega, by omega⟩, ?_⟩
  refine ⟨_, _, ⟨rfl, fun w' h j u hu => h.bel.cellb (hat j u hu)⟩, ?_⟩
  refine call_of (weight_c w2 t (l.getD 0 (0, 0)).1 (l.getD 0 (0, 0)).2) ?_
  rintro e w3 ⟨rfl, k3⟩
  replace H := H.call k3
  refine ⟨_, rfl, H, ⟨by omega, by omega⟩, n + 1, ?_⟩
  have ev : pickV t l = pickG t (l.drop 1) 1 0 (weightV t (l.getD 0 (0, 0)).1 (l.getD 0 (0, 0)).2) := by
    cases l with
    | nil => simp at hl; omega
    | cons x r => rfl
  rw [ev]
  have kk : nat_Pick.L1 (n + 1) g1 0 (weightV t (l.getD 0 (0, 0)).1 (l.getD 0 (0, 0)).2) (cutA A 1 c 2) (n - 1) (c - 1) ((n - 1 : Nat) : Int) 0 w3 (Ret (.tuple #[.int .i64 (pickG t (l.drop 1) 1 0 (weightV t (l.getD 0 (0, 0)).1 (l.getD 0 (0, 0)).2) : Int), .int .i64 0]) w) := Pick_l h hc (by omega) (by omega) (n + 1) 0 0 _ w3 [] (by omega) (by omega) H
  with_reducible apply kk
end Go.Proofs.YtphbdmafchjjeaaDoorS
