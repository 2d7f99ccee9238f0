/- What the small functions of package weftref3 answer: clone, two, four, put2, total, fold, Sum.
   Conditions: bytes are 0 to 255; lists are no longer than memory lets. -/
import Derived.Test.YtchdcdmdbjkihaaSIp4B
import Derived.Test.YtchdcdmdbjkihaaSBuf
import Derived.Test.YtchdcdmdbjkihaaSFR
namespace Go.Proofs.YtchdcdmdbjkihaaS
open Go Go.RowKit Go.Proofs Go.Proofs.YtchdcdmdbjkihaaX
set_option maxRecDepth 100000
set_option linter.unusedVariables false
set_option linter.unusedSimpArgs false

/-- A slice with these bytes is answered, in memory of its own. -/
def RetBy (w : World) (l : List Int) (e : Ending) (w' : World) : Prop := Bel w w' ∧ ∃ A c, e = .returned (.slice A l.length c) ∧ By w' A l.length l ∧ l.length ≤ c ∧ Fre w A
theorem clone3_l (w : World) {A : Option Addr} {n c : Nat} {l : List Int} (h : By w A n l) (hn : n ≤ 10000000000000) : ∀ (q i : Nat) (wa : World) (B : Option Addr) (d : Nat), n - i < q → i ≤ n → Buf w wa [] B i d (l.take i) →
    weftref3_clone.L1 q A n c B i d (i : Int) wa (RetBy w l) := by
  intro q
  induction q with
  | zero => intro i wa B d h; omega
  | succ q ih =>
    intro i wa B d hq hi hb
    have hl := h.len
    unfold weftref3_clone.L1; intros
    rw [weftref3_clone.l1_eq]
    refine ifD (fun h1 => ?_) (fun h1 => ?_)
    · refine (h.bel hb.own.bel).rd (by omega) (by omega) fun _ => ?_
      rw [Int.toNat_natCast]
      refine buf_lit (m := 1) hb [l.getD i 0] rfl (by omega) fun B' d' wb hb' => ?_
      refine let_as ((i + 1 : Nat) : Int) (by rw [w64 (by omega) (by omega)]; omega) ?_
      have e : l.take i ++ [l.getD i 0] = l.take (i + 1) := by
        rw [List.take_succ_eq_append_getElem (by omega)]
        simp [List.getD_eq_getElem?_getD, show i < l.length by omega]
      rw [e] at hb'
      apply ih (i + 1) wb B' d' (by omega) (by omega) hb'
    · have : i = l.length := by omega
      subst this
      rw [List.take_length] at hb
      exact ⟨hb.own.bel, B, d, rfl, hb.by, hb.le, hb.fre⟩
theorem clone3_c {w : World} {A : Option Addr} {n c : Nat} {l : List Int} (h : By w A n l) (hn : n ≤ 10000000000000) : Calls Try.prog 89 #[.slice A n c] w (RetBy w l) := by
  refine weftref3_clone.run ?_
  unfold weftref3_clone.s
  refine ⟨n + 1, ?_⟩
  apply clone3_l w h hn (n + 1) 0 w none 0 (by omega) (by omega) (Buf.nil (Own.refl w))
theorem two_c {w : World} {A : Option Addr} {n c : Nat} {l : List Int} (h : By w A n l) (hb : Bytes l) {i : Nat} {j : Int} (hj : j = i) (hi : i + 1 < n) (hn : n ≤ 1000000000000000) : Calls Try.prog 87 #[.slice A n c, .int .i64 j] w (Ret (.int .i64 (wd l i)) w) := by
  subst hj
  refine weftref3_two.run ?_
  unfold weftref3_two.s
  have h0 := hb.getD i
  have h1 := hb.getD (i + 1)
  refine draws (fun w' => Bel w w') (Bel.refl w).drew fun w1 e1 => ?_
  have k1 : Bel w w1 := by rw [e1]; exact (Bel.refl w).drew
  refine h.rdS (fun w' k => k) (by omega) (by omega) fun _ => ?_
  rw [Int.toNat_natCast]
  refine let_as _ (w64 (by omega) (by omega)) ?_
  refine let_as _ (w64 (by omega) (by omega)) ?_
  refine let_as ((i + 1 : Nat) : Int) (by rw [w64 (by omega) (by omega)]; omega) ?_
  refine h.rdS (fun w' k => k) (by omega) (by omega) fun _ => ?_
  rw [Int.toNat_natCast]
  refine let_as _ (w64 (by omega) (by omega)) ?_
  refine let_as (wd l i) (by rw [w64 (by omega) (by omega)]; unfold wd; omega) ?_
  exact ⟨rfl, k1⟩
theorem four_c {w : World} {A : Option Addr} {n c : Nat} {l : List Int} (h : By w A n l) (hb : Bytes l) {i : Nat} {j : Int} (hj : j = i) (hi : i + 3 < n) (hn : n ≤ 1000000000000000) : Calls Try.prog 88 #[.slice A n c, .int .i64 j] w (Ret (.int .i64 (lg l i)) w) := by
  subst hj
  refine weftref3_four.run ?_
  unfold weftref3_four.s
  have h0 := wd_range hb i
  have h1 := wd_range hb (i + 2)
  refine call_of (two_c h hb rfl (by omega) hn) ?_
  rintro e w1 ⟨rfl, k1⟩
  refine ⟨_, rfl, ?_⟩
  refine let_as _ (w64 (by omega) (by omega)) ?_
  refine let_as ((i + 2 : Nat) : Int) (by rw [w64 (by omega) (by omega)]; omega) ?_
  refine call_of (two_c (h.bel k1) hb rfl (by omega) hn) ?_
  rintro e w2 ⟨rfl, k2⟩
  refine ⟨_, rfl, ?_⟩
  refine let_as (lg l i) (by rw [w64 (by omega) (by omega)]; unfold lg; omega) ?_
  exact ⟨rfl, Bel.trans k1 k2⟩
/-- put2: two bytes behind a list of one's own. -/
theorem put2_c {w wa : World} {M : List (Nat × TypeId × List Value)} {A : Option Addr} {n c : Nat} {l : List Int} (h : Buf w wa M A n c l) {v : Int} (hv : 0 ≤ v ∧ v ≤ 65535) (hn : n ≤ 10000000000000) {R : Ending → World → Prop}
    (hR : ∀ A' c' wb, Buf w wb M A' (n + 2) c' (l ++ [v / 256 % 256, v % 256]) → R (.returned (.slice A' (n + 2) c')) wb) : Calls Try.prog 82 #[.slice A n c, .int .i64 v] wa R := by
  refine weftref3_put2.run ?_
  unfold weftref3_put2.s
  refine let_as (v / 256) (by rw [td (by omega), w64 (by omega) (by omega)]) ?_
  refine let_as (v / 256 % 256) (by rw [w8 (by omega) (by omega)]; omega) ?_
  refine let_as (v % 256) (tm (by omega)) ?_
  refine let_as (v % 256) (w8 (by omega) (by omega)) ?_
  exact buf_lit (m := 2) h [v / 256 % 256, v % 256] rfl (by omega) hR
theorem total_l (w : World) {A : Option Addr} {n c : Nat} {l : List Int} (h : By w A n l) (hb : Bytes l) (hn : n ≤ 1000000000000) : ∀ (q i : Nat) (t : Int), n - i < q → i ≤ n → 0 ≤ t → t + 65280 * (n - i : Nat) ≤ 1000000000000000000 →
    weftref3_total.L1 q A n c t (i : Int) w (Ret (.int .i64 (t + tot (decide (i % 2 = 0)) (l.drop i))) w) := by
  intro q
  induction q with
  | zero => intro i t h; omega
  | succ q ih =>
    intro i t hq hi ht hbd
    have hl := h.len
    unfold weftref3_total.L1; intros
    rw [weftref3_total.l1_eq]
    refine ifD (fun h1 => ?_) (fun h1 => ?_)
    · have hlt : i < l.length := by omega
      have hd : l.drop i = l[i] :: l.drop (i + 1) := List.drop_eq_getElem_cons hlt
      have eg : l.getD i 0 = l[i] := by simp [List.getD_eq_getElem?_getD, hlt]
      have hx := hb.getD i
      refine let_as ((i % 2 : Nat) : Int) (by rw [tm (by omega)]; omega) ?_
      refine ifE (fun h2 => ?_) (fun h2 => ?_)
      · refine h.rd (by omega) (by omega) fun _ => ?_
        rw [Int.toNat_natCast]
        refine let_as _ (w64 (by omega) (by omega)) ?_
        refine let_as _ (w64 (by omega) (by omega)) ?_
        refine let_as _ (w64 (by omega) (by omega)) ?_
        refine let_as ((i + 1 : Nat) : Int) (by rw [w64 (by omega) (by omega)]; omega) ?_
        have := ih (i + 1) (t + 256 * l.getD i 0) (by omega) (by omega) (by omega) (by omega)
        rw [hd, decide_eq_true (by omega : i % 2 = 0), tot, ← eg]
        rw [decide_eq_false (by omega : ¬ (i + 1) % 2 = 0), Int.add_assoc] at this
        apply this
      · refine h.rd (by omega) (by omega) fun _ => ?_
        rw [Int.toNat_natCast]
        refine let_as _ (w64 (by omega) (by omega)) ?_
        refine let_as _ (w64 (by omega) (by omega)) ?_
        refine let_as ((i + 1 : Nat) : Int) (by rw [w64 (by omega) (by omega)]; omega) ?_
        have := ih (i + 1) (t + l.getD i 0) (by omega) (by omega) (by omega) (by omega)
        rw [hd, decide_eq_false (by omega : ¬ i % 2 = 0), tot, ← eg]
        rw [decide_eq_true (by omega : (i + 1) % 2 = 0), Int.add_assoc] at this
        apply this
    · have : i = l.length := by omega
      subst this
      rw [List.drop_length]
      simp only [tot, Int.add_zero]
      exact ⟨rfl, Bel.refl w⟩
theorem total_c {w : World} {A : Option Addr} {n c : Nat} {l : List Int} (h : By w A n l) (hb : Bytes l) (hn : n ≤ 1000000000000) : Calls Try.prog 74 #[.slice A n c] w (Ret (.int .i64 (tot true l)) w) := by
  refine weftref3_total.run ?_
  unfold weftref3_total.s
  refine ⟨n + 1, ?_⟩
  have := total_l w (c := c) h hb hn (n + 1) 0 0 (by omega) (by omega) (by omega) (by omega)
  rw [List.drop_zero, Int.zero_add] at this
  apply this
theorem fold_c (w : World) {t : Int} (h0 : 0 ≤ t) (h1 : t ≤ 1000000000000000000) : Calls Try.prog 75 #[.int .i64 t] w (Ret (.int .i64 (S t)) w) := by
  refine weftref3_fold.run ?_
  unfold weftref3_fold.s
  refine ifE (fun h => ?_) (fun h => ?_)
  · rw [h]; exact ⟨rfl, Bel.refl w⟩
  · refine let_as _ (w64 (by omega) (by omega)) ?_
    refine let_as _ (tm (by omega)) ?_
    refine let_as (S t) (by rw [w64 (by omega) (by omega)]; unfold S; rw [if_neg h]) ?_
    exact ⟨rfl, Bel.refl w⟩
theorem sum3_l (w : World) {A : Option Addr} {n c : Nat} {ps : List (List Int)} (hp : Bys w A n ps) (hb : ∀ p ∈ ps, Bytes p) (hf : ps.flatten.length ≤ 100000000000) (hn : n ≤ 100000000000) : ∀ (q i : Nat) (wa : World) (B : Option Addr) (m d : Nat), n - i < q → i ≤ n → Buf w wa [] B m d (ps.take i).flatten →
    weftref3_Sum.L1 q A n c B m d (i : Int) wa (Ret (.int .u16 (65535 - S (tot true ps.flatten))) w) := by
  intro q
  induction q with
  | zero => intro i wa B m d h; omega
  | succ q ih =>
    intro i wa B m d hq hi hbuf
    have hl := hp.1
    have hm := hbuf.len
    have hsplit : ps.flatten = (ps.take i).flatten ++ (ps.drop i).flatten := by rw [← List.flatten_append, List.take_append_drop]
    unfold weftref3_Sum.L1; intros
    rw [weftref3_Sum.l1_eq]
    refine ifD (fun h1 => ?_) (fun h1 => ?_)
    · have hlt : i < ps.length := by omega
      have hd : ps.drop i = ps[i] :: ps.drop (i + 1) := List.drop_eq_getElem_cons hlt
      have eg : ps.getD i [] = ps[i] := by simp [List.getD_eq_getElem?_getD, hlt]
      obtain ⟨a, ea, hc⟩ := (hp.bel hbuf.own.bel).2 (by omega)
      obtain ⟨C, k, e, h2, h3⟩ := hc i (by omega)
      rw [eg] at h3
      have hk := h3.len
      have hlen : m + k ≤ 100000000000 := by
        rw [hsplit, hd, List.flatten_cons] at hf
        simp only [List.length_append] at hf
        omega
      refine ⟨a, ea, ⟨by omega, by omega⟩, C, k, e, by rw [Int.toNat_natCast]; exact h2, ?_⟩
      refine buf_app hbuf h3 (by omega) fun B' d' wb hb' => ?_
      refine let_as ((i + 1 : Nat) : Int) (by rw [w64 (by omega) (by omega)]; omega) ?_
      have e1 : (ps.take i).flatten ++ ps[i] = (ps.take (i + 1)).flatten := by rw [List.take_succ_eq_append_getElem hlt, List.flatten_append]; simp
      rw [e1] at hb'
      apply ih (i + 1) wb B' (m + k) d' (by omega) (by omega) hb'
    · have : i = ps.length := by omega
      subst this
      rw [List.take_length] at hbuf hm
      have hbb : Bytes ps.flatten := fun x hx => by
        obtain ⟨p, hp1, hp2⟩ := List.mem_flatten.1 hx
        exact hb p hp1 x hp2
      have ht0 := tot_nonneg (b := true) hbb
      have ht1 := tot_le (b := true) hbb
      have hS := S_range ht0
      refine call_of (total_c hbuf.by hbb (by omega)) ?_
      rintro e w1 ⟨rfl, k1⟩
      refine ⟨_, rfl, ?_⟩
      refine call_of (fold_c w1 ht0 (by omega)) ?_
      rintro e w2 ⟨rfl, k2⟩
      refine ⟨_, rfl, ?_⟩
      refine let_as _ (w64 (by omega) (by omega)) ?_
      refine let_as _ (w16 (by omega) (by omega)) ?_
      exact ⟨rfl, Bel.trans (Bel.trans hbuf.own.bel k1) k2⟩
theorem sum3_c {w : World} {A : Option Addr} {n c : Nat} {ps : List (List Int)} (hp : Bys w A n ps) (hb : ∀ p ∈ ps, Bytes p) (hf : ps.flatten.length ≤ 100000000000) (hn : n ≤ 100000000000) :
    Calls Try.prog 38 #[.slice A n c] w (Ret (.int .u16 (65535 - S (tot true ps.flatten))) w) := by
  refine weftref3_Sum.run ?_
  unfold weftref3_Sum.s
  refine ⟨n + 1, ?_⟩
  apply sum3_l w hp hb hf hn (n + 1) 0 w none 0 0 (by omega) (by omega) (Buf.nil (Own.refl w))
theorem sum31_c {w : World} {g : Nat} {t : TypeId} {A : Option Addr} {n c : Nat} {l : List Int} (h : Bk w g t [.slice A n c]) (k : By w A n l) (hb : Bytes l) (hn : l.length ≤ 100000000000) (c' : Nat) :
    Calls Try.prog 38 #[.slice (some ⟨g, 0, none⟩) 1 c'] w (Ret (.int .u16 (65535 - S (tot true l))) w) := by
  have := sum3_c (c := c') (Bys.one (c := c) h k) (fun p hp => by rw [List.mem_singleton.1 hp]; exact hb) (by simpa using hn) (by omega)
  simpa using this
end Go.Proofs.YtchdcdmdbjkihaaS
