/- Package weftref23: Weight is the same number as package nat's weight.
   Conditions: the tuple's and the backend's fields are of their kinds. -/
import Derived.Test.YtphbdmafchjjeaaDoorSNatJ
import Derived.Test.YtphbdmafchjjeaaDoorSFM
namespace Go.Proofs.YtphbdmafchjjeaaDoorS
open Go Go.RowKit Go.Proofs Go.Proofs.YtphbdmafchjjeaaDoorX
set_option maxRecDepth 100000
set_option linter.unusedVariables false
set_option linter.unusedSectionVars false
set_option linter.unusedSimpArgs false

/-! ### the hash over bytes -/
def hashL : Int → List Int → Int
  | h, [] => h
  | h, b :: r => hashL (IntKind.u64.wrap (Go.bits .xor .u64 h b * 1099511628211)) r
theorem hashL_app : ∀ (h : Int) (a b : List Int), hashL h (a ++ b) = hashL (hashL h a) b
  | h, [], b => rfl
  | h, x :: a, b => by
    show hashL _ (a ++ b) = hashL (hashL _ a) b
    exact hashL_app _ a b
theorem xor_u64 {a b : Int} (h1 : 0 ≤ a ∧ a ≤ 18446744073709551615) (h2 : 0 ≤ b ∧ b ≤ 18446744073709551615) : 0 ≤ Go.bits .xor .u64 a b ∧ Go.bits .xor .u64 a b ≤ 18446744073709551615 := by
  rw [u64_xor a b h1.1 (by omega) h2.1 (by omega)]
  have : a.toNat ^^^ b.toNat < 2 ^ 64 := Nat.xor_lt_two_pow (by omega) (by omega)
  omega
theorem u64_range (x : Int) : 0 ≤ IntKind.u64.wrap x ∧ IntKind.u64.wrap x ≤ 18446744073709551615 := by
  rw [u64_mod]
  omega
theorem hashL_range : ∀ {h : Int} {l : List Int}, (0 ≤ h ∧ h ≤ 18446744073709551615) → 0 ≤ hashL h l ∧ hashL h l ≤ 18446744073709551615
  | h, [], hh => hh
  | h, x :: l, hh => by
    unfold hashL
    exact hashL_range (u64_range _)
theorem mmm (a b h : Int) : a * h * (b * h) = a * b * (h * h) := by rw [Int.mul_assoc, Int.mul_left_comm h b h, ← Int.mul_assoc]
theorem times_num {a b : Int} (ha : 0 ≤ a ∧ a ≤ 18446744073709551615) (hb : 0 ≤ b ∧ b ≤ 18446744073709551615) :
    ((a % 4294967296) * (b % 4294967296) % 18446744073709551616 + ((a % 4294967296) * (b / 4294967296) % 18446744073709551616 + (a / 4294967296) * (b % 4294967296) % 18446744073709551616) % 18446744073709551616 % 4294967296 * 4294967296 % 18446744073709551616) % 18446744073709551616 = a * b % 18446744073709551616 := by
  have e1 : a = a / 4294967296 * 4294967296 + a % 4294967296 := by omega
  have e2 : b = b / 4294967296 * 4294967296 + b % 4294967296 := by omega
  generalize a / 4294967296 = a1 at *
  generalize a % 4294967296 = a0 at *
  generalize b / 4294967296 = b1 at *
  generalize b % 4294967296 = b0 at *
  have e3 : a * b = 18446744073709551616 * (a1 * b1) + 4294967296 * (a0 * b1 + a1 * b0) + a0 * b0 := by
    rw [e1, e2]
    simp only [Int.add_mul, Int.mul_add]
    have h1 : a1 * 4294967296 * (b1 * 4294967296) = 18446744073709551616 * (a1 * b1) := by
      rw [mmm]
      omega
    have h2 : a1 * 4294967296 * b0 = 4294967296 * (a1 * b0) := by rw [Int.mul_right_comm, Int.mul_comm]
    have h3 : a0 * (b1 * 4294967296) = 4294967296 * (a0 * b1) := by rw [← Int.mul_assoc, Int.mul_comm]
    omega
  rw [e3]
  generalize a1 * b1 = P
  generalize a0 * b1 = Q
  generalize a1 * b0 = T
  generalize a0 * b0 = U
  omega
theorem times_c (w : World) {a b : Int} (ha : 0 ≤ a ∧ a ≤ 18446744073709551615) (hb : 0 ≤ b ∧ b ≤ 18446744073709551615) : Calls Tryd.prog 42 #[.int .u64 a, .int .u64 b] w (Ret (.int .u64 (IntKind.u64.wrap (a * b))) w) := by
  refine weftref23_times.run ?_
  unfold weftref23_times.s
  refine let_as (a % 4294967296) (tm ha.1) ?_
  refine let_as (b % 4294967296) (tm hb.1) ?_
  refine let_as _ (u64_mod _) ?_
  refine let_as (a % 4294967296) (tm ha.1) ?_
  refine let_as (b / 4294967296) (by rw [td hb.1, u64_small (by omega) (by omega)]) ?_
  refine let_as _ (u64_mod _) ?_
  refine let_as (a / 4294967296) (by rw [td ha.1, u64_small (by omega) (by omega)]) ?_
  refine let_as (b % 4294967296) (tm hb.1) ?_
  refine let_as _ (u64_mod _) ?_
  refine let_as _ (u64_mod _) ?_
  refine let_as _ (tm (Int.emod_nonneg _ (by decide))) ?_
  refine let_as _ (u64_mod _) ?_
  refine let_as _ (u64_mod _) ?_
  rw [times_num ha hb, ← u64_mod]
  exact ⟨rfl, Bel.refl w⟩
/-! ### a number's bytes -/
theorem and255 {x : Int} (h0 : 0 ≤ x) (h1 : x ≤ 4294967295) : Go.bits .and .u32 x 255 = x % 256 := bits_mask .u32 32 (by decide) wraps_u32 8 (by decide) x h0 (by omega)
theorem mix_byte {v : Int} (h0 : 0 ≤ v) (h1 : v ≤ 4294967295) {i : Nat} (hi : i ≤ 3) : IntKind.u64.wrap (Go.bits .and .u32 (Int.fdiv v ((2 : Int) ^ (min (8 * (i : Int)).toNat 32))) 255) = v / 2 ^ (8 * i) % 256 := by
  have e : (min (8 * (i : Int)).toNat 32) = 8 * i := by omega
  have hp : (0 : Int) < 2 ^ (8 * i) := Int.pow_pos (by decide)
  have h2 : v / 2 ^ (8 * i) ≤ v := Int.ediv_le_self _ h0
  have h3 : 0 ≤ v / 2 ^ (8 * i) := Int.ediv_nonneg h0 (Int.le_of_lt hp)
  rw [e, fd _ (Int.le_of_lt hp), and255 h3 (by omega), u64_small (by omega) (by omega)]
theorem mix4 {h v : Int} (h0 : 0 ≤ v) (h1 : v ≤ 4294967295) : mixV h v 4 = hashL h [v / 16777216, v / 65536 % 256, v / 256 % 256, v % 256] := by
  unfold mixV mixV mixV mixV mixV hashL hashL hashL hashL hashL
  rw [mix_byte h0 h1 (by decide), mix_byte h0 h1 (by decide), mix_byte h0 h1 (by decide), mix_byte h0 h1 (by decide)]
  have e3 : v / 2 ^ (8 * 3) % 256 = v / 16777216 := by
    show v / 16777216 % 256 = _
    omega
  have e2 : v / 2 ^ (8 * 2) % 256 = v / 65536 % 256 := rfl
  have e1 : v / 2 ^ (8 * 1) % 256 = v / 256 % 256 := rfl
  have e0 : v / 2 ^ (8 * 0) % 256 = v % 256 := by
    show v / 1 % 256 = _
    omega
  rw [e3, e2, e1, e0]
theorem mix2 {h v : Int} (h0 : 0 ≤ v) (h1 : v ≤ 65535) : mixV h v 2 = hashL h [v / 256, v % 256] := by
  unfold mixV mixV mixV hashL hashL hashL
  rw [mix_byte h0 (by omega) (by decide), mix_byte h0 (by omega) (by decide)]
  have e1 : v / 2 ^ (8 * 1) % 256 = v / 256 := by
    show v / 256 % 256 = _
    omega
  have e0 : v / 2 ^ (8 * 0) % 256 = v % 256 := by
    show v / 1 % 256 = _
    omega
  rw [e1, e0]
theorem mix1 {h v : Int} (h0 : 0 ≤ v) (h1 : v ≤ 255) : mixV h v 1 = hashL h [v] := by
  unfold mixV mixV hashL hashL
  rw [mix_byte h0 (by omega) (by decide)]
  have e0 : v / 2 ^ (8 * 0) % 256 = v := by
    show v / 1 % 256 = _
    omega
  rw [e0]
/-- All bytes that are hashed. -/
def wbs (t : Tp) (a p : Int) : List Int := [t.src / 16777216, t.src / 65536 % 256, t.src / 256 % 256, t.src % 256, t.dst / 16777216, t.dst / 65536 % 256, t.dst / 256 % 256, t.dst % 256, t.proto, t.sp / 256, t.sp % 256, t.dp / 256, t.dp % 256, a / 16777216, a / 65536 % 256, a / 256 % 256, a % 256, p / 256, p % 256]
theorem weight_bytes {t : Tp} (ht : t.Fine) {a p : Int} (ha : 0 ≤ a ∧ a ≤ 4294967295) (hp : 0 ≤ p ∧ p ≤ 65535) : weightV t a p = lastV (hashL 14695981039346656037 (wbs t a p)) := by
  have h1 := ht.src
  have h2 := ht.dst
  have h3 := ht.proto
  have h4 := ht.sp
  have h5 := ht.dp
  unfold weightV
  rw [w32 (by omega) (by omega : t.proto ≤ 4294967295), w32 (by omega) (by omega : t.sp ≤ 4294967295), w32 (by omega) (by omega : t.dp ≤ 4294967295), w32 (by omega) (by omega : p ≤ 4294967295),
    mix4 h1.1 h1.2, mix4 h2.1 h2.2, mix1 h3.1 h3.2, mix2 h4.1 h4.2, mix2 h5.1 h5.2, mix4 ha.1 ha.2, mix2 hp.1 hp.2, ← hashL_app, ← hashL_app, ← hashL_app, ← hashL_app, ← hashL_app, ← hashL_app]
  rfl

/-! ### the walk -/
def ivs (l : List Int) : List Value := l.map (Value.int .i64)
theorem ivs_get (l : List Int) (i : Nat) (h : i < l.length) : (ivs l)[i]? = some (.int .i64 (l.getD i 0)) := by
  simp [ivs, List.getElem?_map, List.getElem?_eq_getElem h, List.getD_eq_getElem?_getD]
theorem rwords_c (w : World) {t : Tp} (ht : t.Fine) : Calls Tryd.prog 41 #[.agg (tpv t).toArray] w (fun e w' => ∃ g, e = .returned (.slice (some ⟨g, 0, none⟩) 6 6) ∧ Own w w' [(g, 3, ivs (wsV t))]) := by
  have h1 := ht.src
  have h2 := ht.dst
  have h3 := ht.sp
  have h4 := ht.dp
  refine weftref23_words.run ?_
  unfold weftref23_words.s
  refine own_new (l := tpv t) (Own.refl w) fun g1 w1 H => ?_
  refine ⟨_, H.cell 0 0 rfl rfl, ?_⟩
  refine let_as t.src (w64 (by omega) (by omega)) ?_
  refine let_as (t.src / 65536) (by rw [td h1.1, w64 (by omega) (by omega)]) ?_
  refine ⟨_, H.cell 0 0 rfl rfl, ?_⟩
  refine let_as t.src (w64 (by omega) (by omega)) ?_
  refine let_as (t.src % 65536) (tm h1.1) ?_
  refine ⟨_, H.cell 0 1 rfl rfl, ?_⟩
  refine let_as t.dst (w64 (by omega) (by omega)) ?_
  refine let_as (t.dst / 65536) (by rw [td h2.1, w64 (by omega) (by omega)]) ?_
  refine ⟨_, H.cell 0 1 rfl rfl, ?_⟩
  refine let_as t.dst (w64 (by omega) (by omega)) ?_
  refine let_as (t.dst % 65536) (tm h2.1) ?_
  refine ⟨_, H.cell 0 3 rfl rfl, ?_⟩
  refine let_as t.sp (w64 (by omega) (by omega)) ?_
  refine ⟨_, H.cell 0 4 rfl rfl, ?_⟩
  refine let_as t.dp (w64 (by omega) (by omega)) ?_
  refine own_new (l := ivs (wsV t)) H fun g19 w2 H => ?_
  exact ⟨g19, rfl, H.head⟩
theorem hash_r {w0 : World} {A : Option Addr} {n c : Nat} {l : List Int} (hA : By w0 A n l) (hb : Bytes l) (hn : n ≤ 1000000) {R : Ending → World → Prop} : ∀ (q i : Nat) (h : Int) (w : World), n - i < q → i ≤ n → (0 ≤ h ∧ h ≤ 18446744073709551615) → Bel w0 w → (∀ w', Bel w0 w' → R (.returned (.int .u64 (lastV (hashL h (l.drop i))))) w') →
    weftref23_Weight.L2 q A n c h (i : Int) w R := by
  have la := hA.len
  intro q
  induction q with
  | zero => intro i h w hq; omega
  | succ q ih =>
    intro i h w hq hi hh k hR
    unfold weftref23_Weight.L2; intros
    rw [weftref23_Weight.l2_eq]
    refine ifD (fun h1 => ?_) (fun h1 => ?_)
    · have ea : l.drop i = l.getD i 0 :: l.drop (i + 1) := by
        rw [List.drop_eq_getElem_cons (by omega), List.getD_eq_getElem?_getD, List.getElem?_eq_getElem (by omega)]
        rfl
      have hg := hb.getD i
      refine (hA.bel k).rd (by omega) (by omega) fun _ => ?_
      rw [Int.toNat_natCast]
      refine let_as (l.getD i 0) (u64_small hg.1 (by omega)) ?_
      refine let_as _ rfl ?_
      have hx := xor_u64 hh (b := l.getD i 0) ⟨hg.1, by omega⟩
      refine call_of (times_c w hx (by decide)) ?_
      rintro e w1 ⟨rfl, k1⟩
      refine ⟨_, rfl, ?_⟩
      refine let_as ((i + 1 : Nat) : Int) (by rw [w64 (by omega) (by omega)]; omega) ?_
      exact ih (i + 1) _ w1 (by omega) (by omega) (u64_range _) (Bel.trans k k1) (fun w' k' => by rw [ea] at hR; exact hR w' k') ..
    · rw [List.drop_eq_nil_of_le (by omega)] at hR
      refine let_as (h / 4294967296) (by rw [td hh.1, u64_small (by omega) (by omega)]) ?_
      refine let_as _ rfl ?_
      have hx := xor_u64 hh (b := h / 4294967296) ⟨by omega, by omega⟩
      refine call_of (times_c w hx (by decide)) ?_
      rintro e w1 ⟨rfl, k1⟩
      refine ⟨_, rfl, ?_⟩
      have hr := u64_range (Go.bits .xor .u64 h (h / 4294967296) * 11400714819323198485)
      refine let_as (IntKind.u64.wrap (Go.bits .xor .u64 h (h / 4294967296) * 11400714819323198485) / 536870912) (by rw [td hr.1, u64_small (by omega) (by omega)]) ?_
      refine let_as _ rfl ?_
      have e := hR w1 (Bel.trans k k1)
      have e2 : lastV (hashL h []) = lastV h := rfl
      rw [e2] at e
      unfold lastV at e
      rw [fd _ (by decide), fd _ (by decide)] at e
      exact e
/-- The bytes of the first i words. -/
def wb2 (l : List Int) : List Int := l.flatMap fun x => [x / 256, x % 256]
theorem wd_byte {l : List Int} (h : Wrds l) : Bytes (wb2 l) := fun x hx => by
  obtain ⟨y, hy, hx⟩ := List.mem_flatMap.1 hx
  have := h y hy
  simp only [List.mem_cons, List.not_mem_nil, or_false] at hx
  rcases hx with rfl | rfl <;> omega
section
variable {w0 : World} {t : Tp} (ht : t.Fine) {a p : Int} (ha : 0 ≤ a ∧ a ≤ 4294967295) (hp : 0 ≤ p ∧ p ≤ 65535)
include ht ha hp
theorem Weight_l {g1 g3 g6 : Nat} : ∀ (q i : Nat) (w : World) (A : Option Addr) (c : Nat), 4 - i < q → i ≤ 4 → Buf w0 w [(g6, 3, ivs (wsV t)), (g3, 28, [.int .u32 a, .int .u16 p]), (g1, 32, tpv t)] A (2 * i) c (wb2 ((wsV t).take i)) →
    weftref23_Weight.L1 q g1 g3 A (2 * i) c (some ⟨g6, 0, none⟩) 6 6 (i : Int) w (Ret (.int .u64 (weightV t a p)) w0) := by
  have hw := wsV_wrds ht
  have h5 := hw.getD 4
  have h6 := hw.getD 5
  have h3 := ht.proto
  intro q
  induction q with
  | zero => intro i w A c h; omega
  | succ q ih =>
    intro i w A c hq hi B
    unfold weftref23_Weight.L1; intros
    rw [weftref23_Weight.l1_eq]
    have cw : ∀ {w' : World} {j : Nat}, j < 6 → Bk w' g6 3 (ivs (wsV t)) → w'.cell? ((⟨g6, 0, none⟩ : Addr).add j) = some (.int .i64 ((wsV t).getD j 0)) := fun {w' j} hj h => by
      rw [add_blk, Nat.zero_add]
      exact h.cell j (ivs_get _ _ hj)
    refine ifD (fun h1 => ?_) (fun h1 => ?_)
    · have hg := hw.getD i
      have k1 : Bel w w.drew := (Bel.refl w).drew
      refine draws (fun w' => Bk w' g6 3 (ivs (wsV t))) ((B.call k1).own.bk 0 rfl) fun w2 e2 => ?_
      rw [← e2] at k1
      have B2 := B.call k1
      refine ⟨_, rfl, ⟨by omega, by omega⟩, (wsV t).getD i 0, fun w' h => cw (by omega) h, ?_⟩
      refine let_as ((wsV t).getD i 0 / 256) (by rw [td hg.1, w64 (by omega) (by omega)]) ?_
      refine let_as ((wsV t).getD i 0 / 256) (w8 (by omega) (by omega)) ?_
      refine ⟨_, rfl, ⟨by omega, by omega⟩, (wsV t).getD i 0, fun w' h => cw (by omega) h, ?_⟩
      refine let_as ((wsV t).getD i 0 % 256) (tm hg.1) ?_
      refine let_as ((wsV t).getD i 0 % 256) (w8 (by omega) (by omega)) ?_
      refine let_as w2.heap.size rfl (let_as (w2.alloc (.cells (bv [(wsV t).getD i 0 / 256, (wsV t).getD i 0 % 256]).toArray 5)) rfl ?_)
      have B3 := B2.call ((Bel.refl w2).alloc (.cells (bv [(wsV t).getD i 0 / 256, (wsV t).getD i 0 % 256]).toArray 5))
      refine ⟨B3.own.bk 0 rfl, ?_⟩
      refine buf_app (m := 2) B3 (Bk.new w2 5 (bv [(wsV t).getD i 0 / 256, (wsV t).getD i 0 % 256])).by (by omega) fun A' c' w4 B4 => ?_
      refine ⟨B4.own.bk 0 rfl, ?_⟩
      refine let_as ((i + 1 : Nat) : Int) (by rw [w64 (by omega) (by omega)]; omega) ?_
      have e : wb2 ((wsV t).take i) ++ [(wsV t).getD i 0 / 256, (wsV t).getD i 0 % 256] = wb2 ((wsV t).take (i + 1)) := by
        unfold wb2
        rw [List.take_succ_eq_append_getElem (by show i < 6; omega), List.flatMap_append, List.getD_eq_getElem?_getD, List.getElem?_eq_getElem (by show i < 6; omega)]
        simp
      have e3 : 2 * i + 2 = 2 * (i + 1) := by omega
      rw [e] at B4
      have kk := ih (i + 1) w4 A' c' (by omega) (by omega) (by rw [← e3]; exact B4)
      exact kk ..
    · have e4 : i = 4 := by omega
      subst e4
      refine ⟨t.proto, B.own.cell 2 2 rfl rfl, ?_⟩
      refine buf_lit (m := 1) B [t.proto] rfl (by decide) fun A2 c2 w2 B2 => ?_
      have k3 : Bel w2 w2.drew := (Bel.refl w2).drew
      refine draws (fun w' => Bk w' g6 3 (ivs (wsV t))) ((B2.call k3).own.bk 0 rfl) fun w3 e3 => ?_
      rw [← e3] at k3
      have B3 := B2.call k3
      refine ⟨_, rfl, ⟨by decide, by decide⟩, (wsV t).getD 4 0, fun w' h => cw (j := 4) (by decide) h, ?_⟩
      refine let_as ((wsV t).getD 4 0 / 256) (by rw [td h5.1, w64 (by omega) (by omega)]) ?_
      refine let_as ((wsV t).getD 4 0 / 256) (w8 (by omega) (by omega)) ?_
      refine ⟨_, rfl, ⟨by decide, by decide⟩, (wsV t).getD 4 0, fun w' h => cw (j := 4) (by decide) h, ?_⟩
      refine let_as ((wsV t).getD 4 0 % 256) (tm h5.1) ?_
      refine let_as ((wsV t).getD 4 0 % 256) (w8 (by omega) (by omega)) ?_
      refine ⟨_, rfl, ⟨by decide, by decide⟩, (wsV t).getD 5 0, fun w' h => cw (j := 5) (by decide) h, ?_⟩
      refine let_as ((wsV t).getD 5 0 / 256) (by rw [td h6.1, w64 (by omega) (by omega)]) ?_
      refine let_as ((wsV t).getD 5 0 / 256) (w8 (by omega) (by omega)) ?_
      refine ⟨_, rfl, ⟨by decide, by decide⟩, (wsV t).getD 5 0, fun w' h => cw (j := 5) (by decide) h, ?_⟩
      refine let_as ((wsV t).getD 5 0 % 256) (tm h6.1) ?_
      refine let_as ((wsV t).getD 5 0 % 256) (w8 (by omega) (by omega)) ?_
      refine let_as w3.heap.size rfl (let_as (w3.alloc (.cells (bv [(wsV t).getD 4 0 / 256, (wsV t).getD 4 0 % 256, (wsV t).getD 5 0 / 256, (wsV t).getD 5 0 % 256]).toArray 5)) rfl ?_)
      have B4 := B3.call ((Bel.refl w3).alloc (.cells (bv [(wsV t).getD 4 0 / 256, (wsV t).getD 4 0 % 256, (wsV t).getD 5 0 / 256, (wsV t).getD 5 0 % 256]).toArray 5))
      refine ⟨B4.own.bk 0 rfl, ?_⟩
      refine buf_app (m := 4) B4 (Bk.new w3 5 (bv [(wsV t).getD 4 0 / 256, (wsV t).getD 4 0 % 256, (wsV t).getD 5 0 / 256, (wsV t).getD 5 0 % 256])).by (by decide) fun A5 c5 w5 B5 => ?_
      refine ⟨B5.own.bk 0 rfl, ?_⟩
      refine ⟨a, B5.own.cell 1 0 rfl rfl, ?_⟩
      refine let_as (a / 16777216) (by rw [td ha.1, w32 (by omega) (by omega)]) ?_
      refine let_as (a / 16777216) (w8 (by omega) (by omega)) ?_
      refine ⟨a, B5.own.cell 1 0 rfl rfl, ?_⟩
      refine let_as (a / 65536) (by rw [td ha.1, w32 (by omega) (by omega)]) ?_
      refine let_as (a / 65536 % 256) (tm (by omega)) ?_
      refine let_as (a / 65536 % 256) (w8 (by omega) (by omega)) ?_
      refine ⟨a, B5.own.cell 1 0 rfl rfl, ?_⟩
      refine let_as (a / 256) (by rw [td ha.1, w32 (by omega) (by omega)]) ?_
      refine let_as (a / 256 % 256) (tm (by omega)) ?_
      refine let_as (a / 256 % 256) (w8 (by omega) (by omega)) ?_
      refine ⟨a, B5.own.cell 1 0 rfl rfl, ?_⟩
      refine let_as (a % 256) (tm ha.1) ?_
      refine let_as (a % 256) (w8 (by omega) (by omega)) ?_
      refine ⟨p, B5.own.cell 1 1 rfl rfl, ?_⟩
      refine let_as (p / 256) (by rw [td hp.1, w16 (by omega) (by omega)]) ?_
      refine let_as (p / 256) (w8 (by omega) (by omega)) ?_
      refine ⟨p, B5.own.cell 1 1 rfl rfl, ?_⟩
      refine let_as (p % 256) (tm hp.1) ?_
      refine let_as (p % 256) (w8 (by omega) (by omega)) ?_
      refine buf_lit (m := 6) B5 [a / 16777216, a / 65536 % 256, a / 256 % 256, a % 256, p / 256, p % 256] rfl (by decide) fun A6 c6 w6 B6 => ?_
      refine ⟨20, ?_⟩
      have el : wb2 ((wsV t).take 4) ++ [t.proto] ++ [(wsV t).getD 4 0 / 256, (wsV t).getD 4 0 % 256, (wsV t).getD 5 0 / 256, (wsV t).getD 5 0 % 256] ++ [a / 16777216, a / 65536 % 256, a / 256 % 256, a % 256, p / 256, p % 256] = wbs t a p := by
        have g1 := ht.src
        have g2 := ht.dst
        have d1 : t.src / 65536 / 256 = t.src / 16777216 := by omega
        have d2 : t.src % 65536 / 256 = t.src / 256 % 256 := by omega
        have d3 : t.src % 65536 % 256 = t.src % 256 := by omega
        have d4 : t.dst / 65536 / 256 = t.dst / 16777216 := by omega
        have d5 : t.dst % 65536 / 256 = t.dst / 256 % 256 := by omega
        have d6 : t.dst % 65536 % 256 = t.dst % 256 := by omega
        show [t.src / 65536 / 256, t.src / 65536 % 256, t.src % 65536 / 256, t.src % 65536 % 256, t.dst / 65536 / 256, t.dst / 65536 % 256, t.dst % 65536 / 256, t.dst % 65536 % 256, t.proto, t.sp / 256, t.sp % 256, t.dp / 256, t.dp % 256, a / 16777216, a / 65536 % 256, a / 256 % 256, a % 256, p / 256, p % 256] = _
        rw [d1, d2, d3, d4, d5, d6]
        rfl
      rw [el] at B6
      have hby : Bytes (wbs t a p) := by
        have g1 := ht.src
        have g2 := ht.dst
        have g3 := ht.sp
        have g4 := ht.dp
        intro x hx
        simp only [wbs, List.mem_cons, List.not_mem_nil, or_false] at hx
        rcases hx with rfl | rfl | rfl | rfl | rfl | rfl | rfl | rfl | rfl | rfl | rfl | rfl | rfl | rfl | rfl | rfl | rfl | rfl | rfl <;> omega
      have fin : weftref23_Weight.L2 20 A6 (2 * 4 + 1 + 4 + 6) c6 14695981039346656037 0 w6 (Ret (.int .u64 (weightV t a p)) w0) := by
        have e5 : lastV (hashL 14695981039346656037 (wbs t a p)) = weightV t a p := (weight_bytes ht ha hp).symm
        have kk := hash_r (c := c6) (R := Ret (.int .u64 (weightV t a p)) w0) B6.by hby (by decide) 20 0 14695981039346656037 w6 (by decide) (by decide) (by decide) (Bel.refl w6) (fun w' k => by rw [List.drop_zero, e5]; exact ⟨rfl, Bel.trans B6.own.bel k⟩)
        exact kk
      exact fin ..
theorem Weight_c {w : World} : Calls Tryd.prog 24 #[.agg (tpv t).toArray, .agg #[.int .u32 a, .int .u16 p]] w (Ret (.int .u64 (weightV t a p)) w) := by
  refine weftref23_Weight.run ?_
  unfold weftref23_Weight.s
  refine own_new (l := tpv t) (Own.refl w) fun g1 w1 H => ?_
  refine own_new (l := [.int .u32 a, .int .u16 p]) H fun g3 w2 H => ?_
  refine ⟨_, _, _, _, _, ⟨rfl, (H.bk 1 rfl).at⟩, ?_⟩
  refine call_of (rwords_c w2 ht) ?_
  rintro e w3 ⟨g6, rfl, H3⟩
  refine ⟨_, _, _, rfl, 5, ?_⟩
  have H4 := Own.join H H3
  have k := Weight_l (w0 := w) ht ha hp (g1 := g1) (g3 := g3) (g6 := g6) 5 0 w3 none 0 (by decide) (by decide) (Buf.nil H4)
  exact k ..
end
end Go.Proofs.YtphbdmafchjjeaaDoorS
