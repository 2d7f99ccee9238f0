/- What the small functions, BuildUDP and ParseUDP of package tunnel answer.
   Conditions: bytes are 0 to 255; lists are no longer than memory lets. -/
import Derived.Test.YtphbdmafchjjeaaDoorHSTunP
import Derived.Test.YtphbdmafchjjeaaDoorHSPk
import Derived.Test.YtphbdmafchjjeaaDoorHSFT
namespace Go.Proofs.YtphbdmafchjjeaaDoorS
open Go Go.RowKit Go.Proofs Go.Proofs.YtphbdmafchjjeaaDoorX
set_option maxRecDepth 100000
set_option linter.unusedVariables false
set_option linter.unusedSimpArgs false

/-! ### numbers in memory -/
/-- A number, laid over the places from o on. -/
def stl (l : List Int) (o n : Nat) (v : Int) : Nat → List Int
  | 0 => l
  | i + 1 => (stl l o n v i).set (o + (n - 1 - i)) (v / 256 ^ i % 256)
theorem stl_len (l : List Int) (o n : Nat) (v : Int) : ∀ i, (stl l o n v i).length = l.length
  | 0 => rfl
  | i + 1 => by rw [stl, List.length_set, stl_len l o n v i]
theorem pow_range {v m : Int} (hv : 0 ≤ v ∧ v ≤ m) (i : Nat) : 0 ≤ v / 256 ^ i ∧ v / 256 ^ i ≤ m := by
  have hp : (0 : Int) < 256 ^ i := Int.pow_pos (by decide)
  refine ⟨Int.ediv_nonneg hv.1 (Int.le_of_lt hp), Int.le_trans (Int.ediv_le_self _ hv.1) hv.2⟩
theorem st16_l {w : World} {g o n c : Nat} {t : TypeId} {l : List Int} {v : Int} (hv : 0 ≤ v ∧ v ≤ 65535) (hl : o + n ≤ l.length) (hn : n ≤ 4) {R : Ending → World → Prop}
    (hR : ∀ w', Bk w' g t (bv (stl l o n v n)) → But g w w' → R (.returned (.tuple #[])) w') {z : Int} (ez : z = (n : Int)) : ∀ (q i : Nat) (w1 : World), n - i < q → i ≤ n → Bk w1 g t (bv (stl l o n v i)) → But g w w1 →
    tunnel_store_uint16.L1 q (some ⟨g, o, none⟩) n c (v / 256 ^ i) z (i : Int) w1 R := by
  intro q
  induction q with
  | zero => intro i w1 h; omega
  | succ q ih =>
    intro i w1 hq hi hb hu
    have hr := pow_range hv i
    subst ez
    unfold tunnel_store_uint16.L1; intros
    rw [tunnel_store_uint16.l1_eq]
    refine ifD (fun h1 => ?_) (fun h1 => ?_)
    · refine let_as ((n - 1 : Nat) : Int) (by rw [w64 (by omega) (by omega)]; omega) ?_
      refine let_as ((n - 1 - i : Nat) : Int) (by rw [w64 (by omega) (by omega)]; omega) ?_
      refine let_as (v / 256 ^ i % 256) (by rw [IntKind.wrap_u8]) ?_
      refine ⟨_, rfl, ⟨by omega, by omega⟩, ?_⟩
      rw [Int.toNat_natCast, add_blk]
      refine ⟨hb.may (by rw [bv_len, stl_len]; omega), ?_⟩
      refine let_gen fun w2 e2 => ?_
      have k2 := hb.set (o + (n - 1 - i)) (.int .u8 (v / 256 ^ i % 256))
      have b2 := But.set w1 g (o + (n - 1 - i)) (.int .u8 (v / 256 ^ i % 256))
      rw [← e2] at k2 b2
      rw [bv_set] at k2
      refine let_as (v / 256 ^ (i + 1)) (by rw [fd _ (by omega), Int.pow_succ, Int.ediv_ediv_of_nonneg (Int.le_of_lt (Int.pow_pos (by decide)))]) ?_
      refine let_as ((i + 1 : Nat) : Int) (by rw [w64 (by omega) (by omega)]; omega) ?_
      exact ih (i + 1) w2 (by omega) (by omega) k2 (hu.trans b2) ..
    · have : i = n := by omega
      subst this
      exact hR w1 hb hu
theorem st32_l {w : World} {g o n c : Nat} {t : TypeId} {l : List Int} {v : Int} (hv : 0 ≤ v ∧ v ≤ 4294967295) (hl : o + n ≤ l.length) (hn : n ≤ 4) {R : Ending → World → Prop}
    (hR : ∀ w', Bk w' g t (bv (stl l o n v n)) → But g w w' → R (.returned (.tuple #[])) w') {z : Int} (ez : z = (n : Int)) : ∀ (q i : Nat) (w1 : World), n - i < q → i ≤ n → Bk w1 g t (bv (stl l o n v i)) → But g w w1 →
    tunnel_store_uint32.L1 q (some ⟨g, o, none⟩) n c (v / 256 ^ i) z (i : Int) w1 R := by
  intro q
  induction q with
  | zero => intro i w1 h; omega
  | succ q ih =>
    intro i w1 hq hi hb hu
    have hr := pow_range hv i
    subst ez
    unfold tunnel_store_uint32.L1; intros
    rw [tunnel_store_uint32.l1_eq]
    refine ifD (fun h1 => ?_) (fun h1 => ?_)
    · refine let_as ((n - 1 : Nat) : Int) (by rw [w64 (by omega) (by omega)]; omega) ?_
      refine let_as ((n - 1 - i : Nat) : Int) (by rw [w64 (by omega) (by omega)]; omega) ?_
      refine let_as (v / 256 ^ i % 256) (by rw [IntKind.wrap_u8]) ?_
      refine ⟨_, rfl, ⟨by omega, by omega⟩, ?_⟩
      rw [Int.toNat_natCast, add_blk]
      refine ⟨hb.may (by rw [bv_len, stl_len]; omega), ?_⟩
      refine let_gen fun w2 e2 => ?_
      have k2 := hb.set (o + (n - 1 - i)) (.int .u8 (v / 256 ^ i % 256))
      have b2 := But.set w1 g (o + (n - 1 - i)) (.int .u8 (v / 256 ^ i % 256))
      rw [← e2] at k2 b2
      rw [bv_set] at k2
      refine let_as (v / 256 ^ (i + 1)) (by rw [fd _ (by omega), Int.pow_succ, Int.ediv_ediv_of_nonneg (Int.le_of_lt (Int.pow_pos (by decide)))]) ?_
      refine let_as ((i + 1 : Nat) : Int) (by rw [w64 (by omega) (by omega)]; omega) ?_
      exact ih (i + 1) w2 (by omega) (by omega) k2 (hu.trans b2) ..
    · have : i = n := by omega
      subst this
      exact hR w1 hb hu
theorem st16_g {w : World} {g o n c : Nat} {t : TypeId} {l : List Int} (h : Bk w g t (bv l)) (ho : o + n ≤ l.length) (hn : n ≤ 4) {v : Int} (hv : 0 ≤ v ∧ v ≤ 65535) {R : Ending → World → Prop}
    (hR : ∀ w', Bk w' g t (bv (stl l o n v n)) → But g w w' → R (.returned (.tuple #[])) w') : Calls Tryd.prog 81 #[.slice (some ⟨g, o, none⟩) n c, .int .u16 v] w R := by
  refine tunnel_store_uint16.run ?_
  unfold tunnel_store_uint16.s
  refine ⟨n + 1, ?_⟩
  have k := st16_l (c := c) hv ho hn hR rfl (n + 1) 0 w (by omega) (by omega) h (But.refl g w)
  rw [show v / 256 ^ 0 = v by simp] at k
  exact k ..
theorem st32_g {w : World} {g o n c : Nat} {t : TypeId} {l : List Int} (h : Bk w g t (bv l)) (ho : o + n ≤ l.length) (hn : n ≤ 4) {v : Int} (hv : 0 ≤ v ∧ v ≤ 4294967295) {R : Ending → World → Prop}
    (hR : ∀ w', Bk w' g t (bv (stl l o n v n)) → But g w w' → R (.returned (.tuple #[])) w') : Calls Tryd.prog 80 #[.slice (some ⟨g, o, none⟩) n c, .int .u32 v] w R := by
  refine tunnel_store_uint32.run ?_
  unfold tunnel_store_uint32.s
  refine ⟨n + 1, ?_⟩
  have k := st32_l (c := c) hv ho hn hR rfl (n + 1) 0 w (by omega) (by omega) h (But.refl g w)
  rw [show v / 256 ^ 0 = v by simp] at k
  exact k ..
theorem st16_c {w : World} {g o c : Nat} {t : TypeId} {l : List Int} (h : Bk w g t (bv l)) (ho : o + 1 < l.length) {v : Int} (hv : 0 ≤ v ∧ v ≤ 65535) {R : Ending → World → Prop}
    (hR : ∀ w', Bk w' g t (bv ((l.set (o + 1) (v % 256)).set o (v / 256 % 256))) → But g w w' → R (.returned (.tuple #[])) w') :
    Calls Tryd.prog 81 #[.slice (some ⟨g, o, none⟩) 2 c, .int .u16 v] w R := by
  have e : stl l o 2 v 2 = (l.set (o + 1) (v % 256)).set o (v / 256 % 256) := by
    show (l.set (o + 1) (v / 256 ^ 0 % 256)).set (o + 0) (v / 256 ^ 1 % 256) = _
    simp
  exact st16_g h (by omega) (by decide) hv fun w' h1 h2 => hR w' (by rwa [e] at h1) h2
theorem st32_c {w : World} {g o c : Nat} {t : TypeId} {l : List Int} (h : Bk w g t (bv l)) (ho : o + 3 < l.length) {v : Int} (hv : 0 ≤ v ∧ v ≤ 4294967295) {R : Ending → World → Prop}
    (hR : ∀ w', Bk w' g t (bv ((((l.set (o + 3) (v % 256)).set (o + 2) (v / 256 % 256)).set (o + 1) (v / 65536 % 256)).set o (v / 16777216 % 256))) → But g w w' → R (.returned (.tuple #[])) w') :
    Calls Tryd.prog 80 #[.slice (some ⟨g, o, none⟩) 4 c, .int .u32 v] w R := by
  have e : stl l o 4 v 4 = (((l.set (o + 3) (v % 256)).set (o + 2) (v / 256 % 256)).set (o + 1) (v / 65536 % 256)).set o (v / 16777216 % 256) := by
    show (((l.set (o + 3) (v / 256 ^ 0 % 256)).set (o + 2) (v / 256 ^ 1 % 256)).set (o + 1) (v / 256 ^ 2 % 256)).set (o + 0) (v / 256 ^ 3 % 256) = _
    simp
  exact st32_g h (by omega) (by decide) hv fun w' h1 h2 => hR w' (by rwa [e] at h1) h2
section
variable {w a : World} {L : List (Nat × TypeId × List Value)}
theorem own_st16 (k : Nat) {g o c : Nat} {t : TypeId} {l : List Int} {R : Ending → World → Prop} (H : Own w a L) (hk : L[k]? = some (g, t, bv l)) (ho : o + 1 < l.length) {v : Int} (hv : 0 ≤ v ∧ v ≤ 65535)
    (hR : ∀ w1, Own w w1 (L.set k (g, t, bv ((l.set (o + 1) (v % 256)).set o (v / 256 % 256)))) → But g a w1 → R (.returned (.tuple #[])) w1) : Calls Tryd.prog 81 #[.slice (some ⟨g, o, none⟩) 2 c, .int .u16 v] a R := by
  exact st16_c (H.bk k hk) ho hv fun w1 hb hbut => hR w1 (H.over k hk hbut hb) hbut
theorem own_st32 (k : Nat) {g o c : Nat} {t : TypeId} {l : List Int} {R : Ending → World → Prop} (H : Own w a L) (hk : L[k]? = some (g, t, bv l)) (ho : o + 3 < l.length) {v : Int} (hv : 0 ≤ v ∧ v ≤ 4294967295)
    (hR : ∀ w1, Own w w1 (L.set k (g, t, bv ((((l.set (o + 3) (v % 256)).set (o + 2) (v / 256 % 256)).set (o + 1) (v / 65536 % 256)).set o (v / 16777216 % 256)))) → But g a w1 → R (.returned (.tuple #[])) w1) : Calls Tryd.prog 80 #[.slice (some ⟨g, o, none⟩) 4 c, .int .u32 v] a R := by
  exact st32_c (H.bk k hk) ho hv fun w1 hb hbut => hR w1 (H.over k hk hbut hb) hbut
end
theorem ld16_l (w : World) {A : Option Addr} {n c : Nat} {l : List Int} (h : By w A n l) (hb : Bytes l) (hn : n ≤ 2) {z : Int} (ez : z = (n : Int)) : ∀ (q i : Nat), n - i < q → i ≤ n → tunnel_load_uint16.L1 q (nbr l 0 i) A n c z (i : Int) w (Ret (.int .u16 (nbr l 0 n)) w) := by
  intro q
  induction q with
  | zero => intro i h; omega
  | succ q ih =>
    intro i hq hi
    have hr := nbr_range hb 0 i
    have hx := hb.getD i
    subst ez
    unfold tunnel_load_uint16.L1; intros
    rw [tunnel_load_uint16.l1_eq]
    refine ifD (fun h1 => ?_) (fun h1 => ?_)
    · refine h.rd (by omega) (by omega) fun _ => ?_
      rw [Int.toNat_natCast]
      have hs : 0 ≤ nbr l 0 i ∧ nbr l 0 i ≤ 255 := by
        rcases (by omega : i = 0 ∨ i = 1) with rfl | rfl
        · exact ⟨Int.le_refl 0, by show (0 : Int) ≤ 255; decide⟩
        · exact ⟨hr.1, by have := hr.2; simp at this; omega⟩
      refine let_as _ (w16 (by omega) (by omega)) ?_
      refine let_as _ (w16 (by omega) (by omega)) ?_
      refine let_as (nbr l 0 (i + 1)) (by rw [or16 hs.1 hs.2 hx.1 hx.2]; show _ = nbr l 0 i * 256 + l.getD (0 + i) 0; rw [Nat.zero_add]) ?_
      refine let_as ((i + 1 : Nat) : Int) (by rw [w64 (by omega) (by omega)]; omega) ?_
      exact ih (i + 1) (by omega) (by omega) ..
    · have : i = n := by omega
      subst this
      exact ⟨rfl, Bel.refl w⟩
theorem ld16_c {w : World} {A : Option Addr} {c : Nat} {l : List Int} (h : By w A 2 l) (hb : Bytes l) : Calls Tryd.prog 73 #[.slice A 2 c] w (Ret (.int .u16 (wd l 0)) w) := by
  refine tunnel_load_uint16.run ?_
  unfold tunnel_load_uint16.s
  refine ⟨3, ?_⟩
  have k := ld16_l w (c := c) h hb (by omega) (z := ((2 : Nat) : Int)) rfl 3 0 (by omega) (by omega)
  rw [nbr2] at k
  exact k ..
/-- A block of one's own with these bytes is answered. -/
def RetOwn (w : World) (n : Nat) (l : List Int) (e : Ending) (w' : World) : Prop := ∃ g, e = .returned (.slice (some ⟨g, 0, none⟩) n n) ∧ Own w w' [(g, 5, bv l)]
theorem clone7_c {w : World} {A : Option Addr} {n c : Nat} {l : List Int} (h : By w A n l) (hn : n ≤ 100000000000000) : Calls Tryd.prog 75 #[.slice A n c] w (RetOwn w n l) := by
  refine tunnel_clone.run ?_
  unfold tunnel_clone.s
  have hl := h.len
  refine ⟨⟨by omega, by omega, by omega, by omega⟩, ?_⟩
  refine own_new (Own.refl w) fun g w1 H => ?_
  rw [bv_rep] at H
  refine own_copy 0 H rfl (h.bel H.bel) (by simp [bv]) fun w2 H => ?_
  rw [bv_splice, Nat.min_self, List.take_of_length_le (by omega), splice_all _ _ (by simp [hl])] at H
  exact ⟨g, rfl, H⟩

/-! ### datagrams -/
theorem pseudo_c {w : World} {src dst n : Int} (hs : 0 ≤ src ∧ src ≤ 4294967295) (hd : 0 ≤ dst ∧ dst ≤ 4294967295) (hn : 0 ≤ n ∧ n ≤ 65535) : Calls Tryd.prog 74 #[.int .u32 src, .int .u32 dst, .int .i64 n] w (RetOwn w 12 (psd src dst n)) := by
  refine tunnel_pseudo.run ?_
  unfold tunnel_pseudo.s
  refine ⟨⟨by decide, by decide, by decide, by decide⟩, ?_⟩
  refine own_new (l := bv [0, 0, 0, 0, 0, 0, 0, 0, 0, 0, 0, 0]) (Own.refl w) fun g w1 H => ?_
  refine ⟨⟨by decide, by decide⟩, ⟨by decide, by decide⟩, ?_⟩
  rw [cut0 g 0 12 (by decide)]
  refine own_st32 0 H rfl (by decide) hs fun w2 H _ => ?_
  refine ⟨rfl, ⟨by decide, by decide⟩, ⟨by decide, by decide⟩, ?_⟩
  rw [cut0 g 4 12 (by decide)]
  refine own_st32 0 H rfl (by simp) hd fun w3 H _ => ?_
  refine ⟨rfl, _, rfl, ⟨by decide, by decide⟩, ?_⟩
  rw [add_blk]
  refine own_set 0 H rfl (by simp [bv]) fun w4 H => ?_
  refine ⟨⟨by decide, by decide⟩, ⟨by decide, by decide⟩, ?_⟩
  refine let_as n (w16 hn.1 hn.2) ?_
  rw [cut0 g 10 12 (by decide)]
  replace H : Own w w4 [(g, 5, bv (src / 16777216 % 256 :: src / 65536 % 256 :: src / 256 % 256 :: src % 256 :: dst / 16777216 % 256 :: dst / 65536 % 256 :: dst / 256 % 256 :: dst % 256 :: [0, 17, 0, 0]))] := H
  refine own_st16 0 H rfl (by simp) hn fun w5 H _ => ?_
  refine ⟨rfl, g, rfl, ?_⟩
  unfold psd
  rw [be4, be4, be2]
  exact H
theorem ld_dg {w : World} {g : Nat} {t : TypeId} {a0 a1 : Int} {A : Option Addr} {n c : Nat} (h : Bk w g t (dv a0 a1 A n c)) {K : Int → Int → Option Addr → Nat → Nat → Prop} (k : K a0 a1 A n c) :
    ∃ x0 : Int, ∃ x1 : Int, ∃ (C : Option Addr) (i j : Nat), (3 = 3 ∧ At w ⟨g, 0, none⟩ [.int .u16 x0, .int .u16 x1, .slice C i j]) ∧ K x0 x1 C i j :=
  ⟨_, _, _, _, _, ⟨rfl, h.at⟩, k⟩
section
variable {w a : World} {L : List (Nat × TypeId × List Value)}
/-- A datagram's record is written over and answered. -/
theorem put_dg (k : Nat) {g : Nat} {t : TypeId} {l : List Value} (h : Own w a L) (hk : L[k]? = some (g, t, l)) (hl : l.length = 3) {a0 a1 : Int} {A : Option Addr} {n c : Nat} {K : World → Int → Int → Option Addr → Nat → Nat → Prop}
    (hK : ∀ w1, Own w w1 (L.set k (g, t, dv a0 a1 A n c)) → But g a w1 → K w1 a0 a1 A n c) :
    May a ⟨g, 0, none⟩ 3 ∧ Let (putCells a ⟨g, 0, none⟩ [.int .u16 a0, .int .u16 a1, .slice A n c] 0) fun w1 =>
      ∃ x0 : Int, ∃ x1 : Int, ∃ (C : Option Addr) (i j : Nat), (3 = 3 ∧ At w1 ⟨g, 0, none⟩ [.int .u16 x0, .int .u16 x1, .slice C i j]) ∧ K w1 x0 x1 C i j := by
  refine own_putB k h hk rfl (by omega) fun w1 H hb => ?_
  rw [splice_all _ _ (by rw [hl]; rfl)] at H
  have hkl := (List.getElem?_eq_some_iff.1 hk).1
  exact ld_dg (H.bk k (List.getElem?_set_self hkl)) (hK w1 H hb)
end
/-- A datagram that was read, or why not. -/
def RetDg (w : World) (src dst : Int) (b : List Int) (e : Ending) (w' : World) : Prop := Bel w w' ∧ if uBad src dst b = 0 then ∃ g, e = .returned (.tuple #[.agg (dv (wd b 0) (wd b 2) (some ⟨g, 0, none⟩) ((wd b 4).toNat - 8) ((wd b 4).toNat - 8)).toArray, .int .i64 0]) ∧ Own w w' [(g, 5, bv (uBody b))]
  else e = .returned (.tuple #[.agg (dv 0 0 none 0 0).toArray, .int .i64 (uBad src dst b)])
theorem RetDg.no {w w' : World} {src dst : Int} {b : List Int} {k : Int} (h : uBad src dst b = k) (hk : k ≠ 0) (hb : Bel w w') : RetDg w src dst b (.returned (.tuple #[.agg (dv 0 0 none 0 0).toArray, .int .i64 k])) w' := by
  refine ⟨hb, ?_⟩
  rw [if_neg (by rw [h]; exact hk), h]
theorem ParseUDP_j2 {w0 w : World} {src dst : Int} {A : Option Addr} {n c : Nat} {b : List Int} (h : By w0 A n b) (hb : Bytes b) (hc : n ≤ c) (h0 : uBad src dst b = 0) {m : Nat} (hm : m = (wd b 4).toNat) {g1 : Nat} (H : Own w0 w [(g1, 111, dv 0 0 none 0 0)]) :
    tunnel_ParseUDP.J2 A m c g1 w (RetDg w0 src dst b) := by
  obtain ⟨q1, q2, q3, q4, q5⟩ := uBad_zero h0
  have hl := h.len
  have hul := uBody_len h0
  unfold tunnel_ParseUDP.J2; intros
  rw [tunnel_ParseUDP.j2_eq]
  refine draws (fun w' => ∃ l, Own w0 w' [(g1, 111, l)]) ⟨_, H.drew⟩ fun w2 e2 => ?_
  replace H := H.drew
  rw [← e2] at H
  refine ⟨⟨by omega, by omega⟩, ⟨by decide, by decide⟩, ⟨by omega, by omega⟩, ⟨by decide, by decide⟩, ⟨by omega, by omega⟩, ?_⟩
  refine call_of (ld16_c ((h.bel H.bel).mid (k := 0) (j := 2) (m := c) (by omega) (by omega) hc) ((hb.take _).drop _)) ?_
  rintro e w3 ⟨rfl, k3⟩
  replace H := H.call k3
  rw [wd_mid b (by omega)]
  refine ⟨_, rfl, ⟨_, H⟩, ?_⟩
  refine call_of (ld16_c ((h.bel H.bel).mid (k := 2) (j := 4) (m := c) (by omega) (by omega) hc) ((hb.take _).drop _)) ?_
  rintro e w4 ⟨rfl, k4⟩
  replace H := H.call k4
  rw [wd_mid b (by omega)]
  refine ⟨_, rfl, ⟨_, H⟩, ?_⟩
  refine call_of (clone7_c ((h.bel H.bel).mid (k := 8) (j := m) (m := c) (by omega) (by omega) hc) (by omega)) ?_
  rintro e w5 ⟨g2, rfl, H2⟩
  have HJ := Own.join H H2
  have hne := HJ.ne (i := 0) (j := 1) rfl rfl (by decide)
  refine ⟨_, _, _, rfl, ⟨_, H.call H2.bel⟩, ?_⟩
  refine own_putB 1 HJ rfl rfl (by decide) fun w6 H6 u6 => ?_
  refine ⟨⟨_, H6.tail⟩, ?_⟩
  refine ld_dg (H6.bk 1 rfl) ?_
  refine ⟨H6.bel, ?_⟩
  rw [if_pos h0]
  subst hm
  exact ⟨g2, rfl, H6.head⟩
theorem ParseUDP_c {w : World} {src dst : Int} (hs : 0 ≤ src ∧ src ≤ 4294967295) (hd : 0 ≤ dst ∧ dst ≤ 4294967295) {A : Option Addr} {n c : Nat} {b : List Int} (h : By w A n b) (hb : Bytes b) (hc : n ≤ c) :
    Calls Tryd.prog 52 #[.int .u32 src, .int .u32 dst, .slice A n c] w (RetDg w src dst b) := by
  refine tunnel_ParseUDP.run ?_
  unfold tunnel_ParseUDP.s
  have hl := h.len
  have hw4 := wd_range hb 4
  have hw6 := wd_range hb 6
  refine own_new (l := dv 0 0 none 0 0) (Own.refl w) fun g1 w2 H => ?_
  refine ifD (fun h1 => ?_) (fun h1 => ?_)
  · exact put_dg 0 H rfl rfl fun w3 H3 _ => RetDg.no (by unfold uBad; rw [if_pos (by omega)]) (by decide) H3.bel
  refine ifD (fun h2 => ?_) (fun h2 => ?_)
  · exact put_dg 0 H rfl rfl fun w3 H3 _ => RetDg.no (by unfold uBad; rw [if_neg (by omega), if_pos (by omega)]) (by decide) H3.bel
  refine ⟨⟨by omega, by omega⟩, ⟨by decide, by decide⟩, ?_⟩
  refine call_of (ld16_c ((h.bel H.bel).mid (k := 4) (j := 6) (m := c) (by omega) (by omega) hc) ((hb.take _).drop _)) ?_
  rintro e w3 ⟨rfl, k3⟩
  replace H := H.call k3
  rw [wd_mid b (by omega)]
  refine ⟨_, rfl, ?_⟩
  refine let_as (wd b 4) (w64 (by omega) (by omega)) ?_
  refine ifD (fun h3 => ?_) (fun h3 => ?_)
  · exact put_dg 0 H rfl rfl fun w3 H3 _ => RetDg.no (by unfold uBad; rw [if_neg (by omega), if_neg (by omega), if_pos h3]) (by decide) H3.bel
  refine ifD (fun h4 => ?_) (fun h4 => ?_)
  · exact put_dg 0 H rfl rfl fun w3 H3 _ => RetDg.no (by unfold uBad; rw [if_neg (by omega), if_neg (by omega), if_neg h3, if_pos (by omega)]) (by decide) H3.bel
  refine ⟨?_⟩
  rw [tunnel_ParseUDP.j1_eq]
  have e4 : ∀ z : Int, uBad src dst b = z ↔ (if wd b 6 ≠ 0 ∧ S (tot true (psd src dst (wd b 4) ++ b.take (wd b 4).toNat)) ≠ 65535 then (73 : Int) else 0) = z := fun z => by
    unfold uBad
    rw [if_neg (by omega), if_neg (by omega), if_neg h3, if_neg (by omega)]
  refine ⟨⟨by omega, by omega⟩, ⟨by omega, by omega⟩, ⟨by decide, by decide⟩, ?_⟩
  refine call_of (ld16_c ((h.bel H.bel).mid (k := 6) (j := 8) (m := c) (by omega) (by omega) hc) ((hb.take _).drop _)) ?_
  rintro e w4 ⟨rfl, k4⟩
  replace H := H.call k4
  rw [wd_mid b (by omega)]
  refine ⟨_, rfl, ?_⟩
  refine ifN (fun h5 => ?_) (fun h5 => ?_)
  · refine call_of (pseudo_c hs hd (by omega)) ?_
    rintro e w5 ⟨g2, rfl, H2⟩
    have y2 := (H2.bk 0 rfl).by
    rw [psd_len] at y2
    replace H := H.call H2.bel
    refine ⟨_, _, _, rfl, ?_⟩
    refine own_newB H fun g3 w6 H k6 => ?_
    refine call_of (sum2_c (H.bk 0 rfl) (y2.bel k6) ((h.bel H.bel).take (k := (wd b 4).toNat) (by omega)) (psd_bytes _ _ _) (hb.take _) (by rw [psd_len, List.length_take]; omega) 2) ?_
    rintro e w7 ⟨rfl, k7⟩
    replace H := (H.call k7).tail
    refine ⟨_, rfl, ?_⟩
    refine ifN (fun h6 => ?_) (fun h6 => ?_)
    · exact put_dg 0 H rfl rfl fun w3 H3 _ => RetDg.no ((e4 73).2 (by rw [if_pos ⟨h5, by omega⟩])) (by decide) H3.bel
    · have k := ParseUDP_j2 (src := src) (dst := dst) h hb hc ((e4 0).2 (by rw [if_neg (fun hx => hx.2 (by omega))])) rfl H
      exact ⟨by with_reducible apply k⟩
  · have k := ParseUDP_j2 (src := src) (dst := dst) h hb hc ((e4 0).2 (by rw [if_neg (fun hx => hx.1 h5)])) rfl H
    exact ⟨by with_reducible apply k⟩
theorem rep8 (n : Nat) : List.replicate (8 + n) (0 : Int) = 0 :: 0 :: 0 :: 0 :: 0 :: 0 :: 0 :: 0 :: List.replicate n 0 := by
  rw [Nat.add_comm]
  rfl
/-- A datagram's bytes, in a block of their own. -/
def RetRaw (w : World) (l : List Int) (e : Ending) (w' : World) : Prop := ∃ g, e = .returned (.tuple #[.slice (some ⟨g, 0, none⟩) l.length l.length, .int .i64 0]) ∧ Own w w' [(g, 5, bv l)]
def RetBU (w : World) (src dst sp dp : Int) (body : List Int) (on : Bool) (e : Ending) (w' : World) : Prop := (body.length > 65527 → e = .returned (.tuple #[.slice none 0 0, .int .i64 2]) ∧ Bel w w') ∧ (¬ body.length > 65527 → RetRaw w (uBytes src dst sp dp body on) e w')
end Go.Proofs.YtphbdmafchjjeaaDoorS
