/- Package nat: words, sums turned over, what stands in a part of a block of one's own.
   Conditions: bytes are 0 to 255, words 0 to 65535. -/
import Derived.Test.YtphbdmafchjjeaaDoorHSRef3M
import Derived.Test.YtphbdmafchjjeaaDoorHSScr
import Derived.Test.YtphbdmafchjjeaaDoorHSNatAM
import Derived.Test.YtphbdmafchjjeaaDoorHSFO
namespace Go.Proofs.YtphbdmafchjjeaaDoorS
open Go Go.RowKit Go.Proofs Go.Proofs.YtphbdmafchjjeaaDoorX
set_option maxRecDepth 100000
set_option linter.unusedVariables false
set_option linter.unusedSectionVars false
set_option linter.unusedSimpArgs false

/-! ### words in bytes -/
def setw (b : List Int) (i : Nat) (v : Int) : List Int := (b.set i (v / 256)).set (i + 1) (v % 256)
theorem setw_len (b : List Int) (i : Nat) (v : Int) : (setw b i v).length = b.length := by simp [setw]
theorem Bytes.set {b : List Int} (h : Bytes b) (i : Nat) {v : Int} (hv : 0 ≤ v ∧ v ≤ 255) : Bytes (b.set i v) := fun x hx => by
  rcases List.mem_or_eq_of_mem_set hx with hx | rfl
  · exact h x hx
  · exact hv
theorem setw_bytes {b : List Int} (h : Bytes b) (i : Nat) {v : Int} (hv : 0 ≤ v ∧ v ≤ 65535) : Bytes (setw b i v) := (h.set i (by omega)).set (i + 1) (by omega)
theorem nword_c {w : World} {A : Option Addr} {n c : Nat} {l : List Int} (h : By w A n l) (hb : Bytes l) {i : Nat} {j : Int} (hj : j = i) (hi : i + 1 < n) (hn : n ≤ 1000000000000000) :
    Calls Tryd.prog 68 #[.slice A n c, .int .i64 j] w (Ret (.int .u16 (wd l i)) w) := by
  refine nat_word.run ?_
  unfold nat_word.s
  subst hj
  refine drawsR fun w2 hw => ?_
  have h0 := hb.getD i
  have h1 := hb.getD (i + 1)
  refine h.rdS (fun _ h => h) (by omega) (by omega) fun _ => ?_
  rw [Int.toNat_natCast]
  refine let_as _ (w16 (by omega) (by omega)) ?_
  refine let_as _ (w16 (by omega) (by omega)) ?_
  refine let_as ((i + 1 : Nat) : Int) (by rw [w64 (by omega) (by omega)]; omega) ?_
  refine h.rdS (fun _ h => h) (by omega) (by omega) fun _ => ?_
  rw [Int.toNat_natCast]
  refine let_as _ (w16 (by omega) (by omega)) ?_
  refine let_as _ (or16 h0.1 h0.2 h1.1 h1.2) ?_
  exact ⟨rfl, hw⟩
/-- A part of a block of bytes of one's own. -/
theorem by_part {w : World} {g o n : Nat} {pre b post : List Int} (h : Bk w g 5 (bv (pre ++ (b ++ post)))) (ho : pre.length = o) (hn : b.length = n) : By w (some ⟨g, o, none⟩) n b := by
  have := By.part (o := o) (n := n) h (by rw [List.length_append, List.length_append]; omega)
  rwa [List.drop_left' ho, List.take_left' hn] at this
section
variable {w0 : World} {M : List Blk} {cs : List Lst}
theorem set_part {pre b post : List Int} {o i : Nat} {v : Int} (ho : pre.length = o) (hi : i < b.length) : (pre ++ (b ++ post)).set (o + i) v = pre ++ (b.set i v ++ post) := by
  rw [List.set_append_right _ _ (by omega), ho, Nat.add_sub_cancel_left, List.set_append_left _ _ hi]
theorem putw_c {w : World} {g o n c : Nat} {pre b post : List Int} (H : OF w0 w ((g, 5, bv (pre ++ (b ++ post))) :: M) cs) (ho : pre.length = o) (hn : b.length = n) {i : Nat} {j v : Int} (hj : j = i) (hi : i + 1 < n) (hm : n ≤ 1000000000000000) (hv : 0 ≤ v ∧ v ≤ 65535) :
    Calls Tryd.prog 61 #[.slice (some ⟨g, o, none⟩) n c, .int .i64 j, .int .u16 v] w fun e w' => e = .returned (.tuple #[]) ∧ OF w0 w' ((g, 5, bv (pre ++ (setw b i v ++ post))) :: M) cs := by
  refine nat_putWord.run ?_
  unfold nat_putWord.s
  subst hj
  refine let_as ((i + 1 : Nat) : Int) (by rw [w64 (by omega) (by omega)]; omega) ?_
  refine let_as _ (fd _ (by omega)) ?_
  refine let_as _ (w8 (by omega) (by omega)) ?_
  refine let_as (v % 256) (by rw [IntKind.wrap_u8]) ?_
  refine ⟨_, rfl, ⟨by omega, by omega⟩, ?_⟩
  rw [Int.toNat_natCast, add_blk]
  refine of_set 0 H rfl (by rw [bv_len, List.length_append, List.length_append]; omega) fun w1 H1 => ?_
  replace H1 : OF w0 w1 ((g, 5, (bv (pre ++ (b ++ post))).set (o + i) (.int .u8 (v / 256))) :: M) cs := H1
  rw [bv_set, set_part ho (by omega)] at H1
  refine ⟨_, rfl, ⟨by omega, by omega⟩, ?_⟩
  rw [Int.toNat_natCast, add_blk]
  refine of_set 0 H1 rfl (by rw [bv_len, List.length_append, List.length_append, List.length_set]; omega) fun w2 H2 => ?_
  replace H2 : OF w0 w2 ((g, 5, (bv (pre ++ (b.set i (v / 256) ++ post))).set (o + (i + 1)) (.int .u8 (v % 256))) :: M) cs := H2
  rw [bv_set, set_part ho (by rw [List.length_set]; omega)] at H2
  exact ⟨rfl, H2⟩
end

/-! ### a tuple's words -/
structure Tp.Fine (t : Tp) : Prop where
  src : 0 ≤ t.src ∧ t.src ≤ 4294967295
  dst : 0 ≤ t.dst ∧ t.dst ≤ 4294967295
  proto : 0 ≤ t.proto ∧ t.proto ≤ 255
  sp : 0 ≤ t.sp ∧ t.sp ≤ 65535
  dp : 0 ≤ t.dp ∧ t.dp ≤ 65535
def wsV (t : Tp) : List Int := [t.src / 65536, t.src % 65536, t.dst / 65536, t.dst % 65536, t.sp, t.dp]
def wvs (l : List Int) : List Value := l.map (Value.int .u16)
theorem words_c (w : World) {t : Tp} (ht : t.Fine) : Calls Tryd.prog 66 #[.agg (tpv t).toArray] w (Ret (.agg (wvs (wsV t)).toArray) w) := by
  have h1 := ht.src
  have h2 := ht.dst
  refine nat_words.run ?_
  unfold nat_words.s
  refine own_new (l := tpv t) (Own.refl w) fun g1 w1 H => ?_
  refine own_new (l := [.int .u16 0, .int .u16 0, .int .u16 0, .int .u16 0, .int .u16 0, .int .u16 0]) H fun g3 w4 H => ?_
  refine ⟨_, H.cell 1 0 rfl rfl, ?_⟩
  refine let_as (t.src / 65536) (fd _ (by decide)) ?_
  refine let_as (t.src / 65536) (w16 (by omega) (by omega)) ?_
  refine ⟨_, H.cell 1 0 rfl rfl, ?_⟩
  refine let_as (t.src % 65536) (by rw [IntKind.wrap_u16]) ?_
  refine ⟨_, H.cell 1 1 rfl rfl, ?_⟩
  refine let_as (t.dst / 65536) (fd _ (by decide)) ?_
  refine let_as (t.dst / 65536) (w16 (by omega) (by omega)) ?_
  refine ⟨_, H.cell 1 1 rfl rfl, ?_⟩
  refine let_as (t.dst % 65536) (by rw [IntKind.wrap_u16]) ?_
  refine ⟨_, H.cell 1 3 rfl rfl, _, H.cell 1 4 rfl rfl, ?_⟩
  refine own_putB 0 H rfl rfl (Nat.le_refl 6) fun w5 H u => ?_
  refine ⟨_, _, _, _, _, _, ⟨rfl, (H.bk 0 rfl).at⟩, ?_⟩
  exact ⟨rfl, H.bel⟩

/-! ### a sum's field turned over -/
/-- A[:n] holds these words. -/
def Ws (w : World) (A : Option Addr) (n : Nat) (l : List Int) : Prop := l.length = n ∧ (0 < n → ∃ a, A = some a ∧ ∀ i, i < n → w.cell? (a.add i) = some (.int .u16 (l.getD i 0)))
theorem Ws.bel {w w' : World} {A : Option Addr} {n : Nat} {l : List Int} (h : Ws w A n l) (k : Bel w w') : Ws w' A n l :=
  ⟨h.1, fun hn => let ⟨a, e, hc⟩ := h.2 hn; ⟨a, e, fun i hi => k.cellb (hc i hi)⟩⟩
theorem Ws.rdS {w : World} {A : Option Addr} {n : Nat} {l : List Int} (h : Ws w A n l) {S : World → Prop} (hS : ∀ w', S w' → Bel w w') {i : Nat} (h1 : i < n) {K : Addr → Int → Prop} (hk : ∀ a, K a (l.getD i 0)) :
    ∃ a : Addr, A = some a ∧ (0 ≤ (i : Int) ∧ (i : Int) < (n : Int)) ∧ (∃ x : Int, (∀ w', S w' → w'.cell? (a.add ((i : Int)).toNat) = some (.int .u16 x)) ∧ K a x) := by
  obtain ⟨a, e, hc⟩ := h.2 (by omega)
  exact ⟨a, e, ⟨by omega, by omega⟩, _, fun w' hw' => (hS w' hw').cellb (hc i h1), hk a⟩
theorem wvs_get (l : List Int) (i : Nat) (h : i < l.length) : (wvs l)[i]? = some (.int .u16 (l.getD i 0)) := by
  simp [wvs, List.getElem?_map, List.getElem?_eq_getElem h, List.getD_eq_getElem?_getD]
theorem Ws.of {w : World} {g o n : Nat} {t : TypeId} {l : List Int} (h : Bk w g t (wvs l)) (hn : o + n ≤ l.length) : Ws w (some ⟨g, o, none⟩) n ((l.drop o).take n) := by
  refine ⟨by simp; omega, fun _ => ⟨_, rfl, fun i hi => ?_⟩⟩
  rw [add_blk, h.cell (o + i) (wvs_get l (o + i) (by omega))]
  simp [List.getD_eq_getElem?_getD, List.getElem?_take, hi, List.getElem?_drop]
def overV : Int → List Int → List Int → Int
  | f, x :: xs, y :: ys => overV (if x ≠ y then adjS f x y else f) xs ys
  | f, _, _ => f
def Wrds (l : List Int) : Prop := ∀ x ∈ l, 0 ≤ x ∧ x ≤ 65535
theorem Wrds.getD {l : List Int} (h : Wrds l) (i : Nat) : 0 ≤ l.getD i 0 ∧ l.getD i 0 ≤ 65535 := by
  rw [List.getD_eq_getElem?_getD]
  cases e : l[i]? with
  | none => exact ⟨Int.le_refl 0, by decide⟩
  | some x => exact h x (List.mem_of_getElem? e)
theorem wsV_wrds {t : Tp} (ht : t.Fine) : Wrds (wsV t) := by
  have h1 := ht.src
  have h2 := ht.dst
  have h3 := ht.sp
  have h4 := ht.dp
  intro x hx
  simp only [wsV, List.mem_cons, List.not_mem_nil, or_false] at hx
  rcases hx with rfl | rfl | rfl | rfl | rfl | rfl <;> omega
theorem overV_range : ∀ {f : Int} {a b : List Int}, 0 ≤ f ∧ f ≤ 65535 → Wrds a → Wrds b → 0 ≤ overV f a b ∧ overV f a b ≤ 65535
  | f, [], b, hf, _, _ => by simpa [overV] using hf
  | f, x :: a, [], hf, _, _ => by simpa [overV] using hf
  | f, x :: a, y :: b, hf, ha, hb => by
    unfold overV
    refine overV_range ?_ (fun z hz => ha z (List.mem_cons_of_mem _ hz)) (fun z hz => hb z (List.mem_cons_of_mem _ hz))
    split
    · exact adjS_range hf (ha x List.mem_cons_self) (hb y List.mem_cons_self)
    · exact hf
theorem over_l {w0 : World} {A B : Option Addr} {n c d : Nat} {a b : List Int} (hA : Ws w0 A n a) (hB : Ws w0 B n b) (wa : Wrds a) (wb : Wrds b) (hn : n ≤ 1000000) : ∀ (q i : Nat) (f : Int) (w : World), n - i < q → i ≤ n → (0 ≤ f ∧ f ≤ 65535) → Bel w0 w →
    nat_over.L1 q f A n c B n d (n : Int) (i : Int) w (Ret (.int .u16 (overV f (a.drop i) (b.drop i))) w0) := by
  have la := hA.1
  have lb := hB.1
  intro q
  induction q with
  | zero => intro i f w h; omega
  | succ q ih =>
    intro i f w hq hi hf k
    unfold nat_over.L1; intros
    rw [nat_over.l1_eq]
    refine ifD (fun h => ?_) (fun h => ?_)
    · have hi2 : i < n := by omega
      have ea : a.drop i = a.getD i 0 :: a.drop (i + 1) := by
        rw [List.drop_eq_getElem_cons (by omega), List.getD_eq_getElem?_getD, List.getElem?_eq_getElem (by omega)]
        rfl
      have eb : b.drop i = b.getD i 0 :: b.drop (i + 1) := by
        rw [List.drop_eq_getElem_cons (by omega), List.getD_eq_getElem?_getD, List.getElem?_eq_getElem (by omega)]
        rfl
      rw [ea, eb]
      unfold overV
      refine draws (fun w' => Bel w0 w') k.drew fun w2 e2 => ?_
      have k2 : Bel w0 w2 := by rw [e2]; exact k.drew
      refine hA.rdS (fun _ h => h) hi2 fun _ => ?_
      refine hB.rdS (fun _ h => h) hi2 fun _ => ?_
      refine ifN (fun h1 => ?_) (fun h1 => ?_)
      · rw [if_pos h1]
        refine draws (fun w' => Bel w0 w') k2.drew fun w3 e3 => ?_
        have k3 : Bel w0 w3 := by rw [e3]; exact k2.drew
        refine hA.rdS (fun _ h => h) hi2 fun _ => ?_
        refine hB.rdS (fun _ h => h) hi2 fun _ => ?_
        refine call_of (Adjust_c w3 hf (wa.getD i) (wb.getD i)) ?_
        rintro e w4 ⟨rfl, k4⟩
        refine ⟨_, rfl, k3.trans k4, ?_⟩
        refine let_as ((i + 1 : Nat) : Int) (by rw [w64 (by omega) (by omega)]; omega) ?_
        exact ih (i + 1) _ w4 (by omega) (by omega) (adjS_range hf (wa.getD i) (wb.getD i)) (k3.trans k4) ..
      · rw [if_neg (fun h => h h1)]
        refine let_as ((i + 1 : Nat) : Int) (by rw [w64 (by omega) (by omega)]; omega) ?_
        exact ih (i + 1) f w2 (by omega) (by omega) hf k2 ..
    · rw [List.drop_eq_nil_of_le (by omega)]
      unfold overV
      exact ⟨rfl, k⟩
theorem over_c {w : World} {A B : Option Addr} {n c d : Nat} {a b : List Int} (hA : Ws w A n a) (hB : Ws w B n b) (wa : Wrds a) (wb : Wrds b) (hn : n ≤ 1000000) {f : Int} (hf : 0 ≤ f ∧ f ≤ 65535) :
    Calls Tryd.prog 67 #[.int .u16 f, .slice A n c, .slice B n d] w (Ret (.int .u16 (overV f a b)) w) := by
  refine nat_over.run ?_
  unfold nat_over.s
  refine ⟨n + 1, ?_⟩
  have k := over_l (c := c) (d := d) hA hB wa wb hn (n + 1) 0 f w (by omega) (by omega) hf (Bel.refl w)
  exact k ..
/-! ### bytes that are all 0 -/
/-- Are all bytes but two 0? -/
def blankV (k : Nat) : List Int → Nat → Bool
  | [], _ => true
  | x :: r, i => (decide (x = 0) || decide (i = k) || decide (i = k + 1)) && blankV k r (i + 1)
theorem empty_l {w0 : World} {A : Option Addr} {n c k : Nat} {l : List Int} (hA : By w0 A n l) (hn : n ≤ 1000000000) (hk : k ≤ 1000) : ∀ (q i : Nat), n - i < q → i ≤ n →
    nat_empty.L1 q (k : Int) A n c (n : Int) (i : Int) w0 (Ret (.bool (blankV k (l.drop i) i)) w0) := by
  have la := hA.len
  intro q
  induction q with
  | zero => intro i h; omega
  | succ q ih =>
    intro i hq hi
    unfold nat_empty.L1; intros
    rw [nat_empty.l1_eq]
    refine ifD (fun h => ?_) (fun h => ?_)
    · have ea : l.drop i = l.getD i 0 :: l.drop (i + 1) := by
        rw [List.drop_eq_getElem_cons (by omega), List.getD_eq_getElem?_getD, List.getElem?_eq_getElem (by omega)]
        rfl
      rw [ea]
      unfold blankV
      refine hA.rd (by omega) (by omega) fun _ => ?_
      rw [Int.toNat_natCast]
      have nx : ∀ b : Bool, b = true → Ret (.bool (b && blankV k (l.drop (i + 1)) (i + 1))) w0 = Ret (.bool (blankV k (l.drop (i + 1)) (i + 1))) w0 := fun b hb => by rw [hb, Bool.true_and]
      refine ifN (fun h1 => ?_) (fun h1 => ?_)
      · refine ifN (fun h2 => ?_) (fun h2 => ?_)
        · refine let_as ((k + 1 : Nat) : Int) (by rw [w64 (by omega) (by omega)]; omega) ?_
          refine ifN (fun h3 => ?_) (fun h3 => ?_)
          · have e : (decide (l.getD i 0 = 0) || decide (i = k) || decide (i = k + 1)) = false := by
              simp only [Bool.or_eq_false_iff, decide_eq_false_iff_not]
              exact ⟨⟨h1, by omega⟩, by omega⟩
            rw [e, Bool.false_and]
            exact ⟨rfl, Bel.refl w0⟩
          · refine let_as ((i + 1 : Nat) : Int) (by rw [w64 (by omega) (by omega)]; omega) ?_
            rw [nx _ (by simp only [Bool.or_eq_true, decide_eq_true_eq]; omega)]
            exact ih (i + 1) (by omega) (by omega) ..
        · refine let_as ((i + 1 : Nat) : Int) (by rw [w64 (by omega) (by omega)]; omega) ?_
          rw [nx _ (by simp only [Bool.or_eq_true, decide_eq_true_eq]; omega)]
          exact ih (i + 1) (by omega) (by omega) ..
      · refine let_as ((i + 1 : Nat) : Int) (by rw [w64 (by omega) (by omega)]; omega) ?_
        rw [nx _ (by simp only [Bool.or_eq_true, decide_eq_true_eq]; exact Or.inl (Or.inl h1))]
        exact ih (i + 1) (by omega) (by omega) ..
    · rw [List.drop_eq_nil_of_le (by omega)]
      unfold blankV
      exact ⟨rfl, Bel.refl w0⟩
theorem empty_c {w : World} {A : Option Addr} {n c k : Nat} {l : List Int} (hA : By w A n l) (hn : n ≤ 1000000000) (hk : k ≤ 1000) {j : Int} (hj : j = (k : Int)) :
    Calls Tryd.prog 69 #[.slice A n c, .int .i64 j] w (Ret (.bool (blankV k l 0)) w) := by
  subst hj
  refine nat_empty.run ?_
  unfold nat_empty.s
  refine ⟨n + 1, ?_⟩
  have kk := empty_l (c := c) hA hn hk (n + 1) 0 (by omega) (by omega)
  exact kk ..
end Go.Proofs.YtphbdmafchjjeaaDoorS
