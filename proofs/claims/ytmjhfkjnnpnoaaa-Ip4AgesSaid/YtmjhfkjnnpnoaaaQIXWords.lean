/- Words that this session's printed texts lean on: a copy into a row of the call's own, a literal of slices that is only read.
   Conditions: none; every statement is proved here. -/
import Derived.Test.YtmjhfkjnnpnoaaaQIWWords
import Derived.Test.YtmjhfkjnnpnoaaaQIWLast
import Derived.Test.YtmjhfkjnnpnoaaaQIWMore
import Derived.Laws.CopyOwn
namespace Go.Proofs.YtmjhfkjnnpnoaaaX
open Go.RowKit Go.Proofs.YtmjhfkjnnpnoaaaW.PrintWords Go.Proofs.YtmjhfkjnnpnoaaaW.PrintLast Go.Proofs.YtmjhfkjnnpnoaaaW.PrintMore

/-- The list behind a copy of S to place lo of X. -/
def cpy (X : List Int) (lo : Nat) (S : List Int) : List Int := X.take lo ++ (S.take (X.length - lo) ++ X.drop (lo + S.length))
theorem cpy_length {X S : List Int} {lo : Nat} (h : lo ≤ X.length) : (cpy X lo S).length = X.length := by
  simp only [cpy, List.length_append, List.length_take, List.length_drop]
  omega
theorem cpy_none {X S : List Int} {lo : Nat} (h : lo ≤ X.length) (hm : Nat.min S.length (X.length - lo) = 0) : cpy X lo S = X := by
  have h2 : S.length = 0 ∨ X.length - lo = 0 := by
    rcases Nat.le_total S.length (X.length - lo) with h1 | h1
    · left; rw [show Nat.min S.length (X.length - lo) = S.length from Nat.min_eq_left h1] at hm; exact hm
    · right; rw [show Nat.min S.length (X.length - lo) = X.length - lo from Nat.min_eq_right h1] at hm; exact hm
  rcases h2 with h1 | h1
  · obtain rfl := List.eq_nil_of_length_eq_zero h1
    simp [cpy]
  · have : lo = X.length := by omega
    subst this
    simp [cpy]
theorem cpy_some {X S : List Int} {lo k : Nat} (h : lo ≤ X.length) (hk : k = Nat.min S.length (X.length - lo)) : cpy X lo S = X.take lo ++ (S.take k ++ X.drop (lo + k)) := by
  subst hk
  unfold cpy
  rcases Nat.le_total S.length (X.length - lo) with h1 | h1
  · rw [show Nat.min S.length (X.length - lo) = S.length from Nat.min_eq_left h1, List.take_of_length_le h1, List.take_of_length_le (Nat.le_refl _)]
  · rw [show Nat.min S.length (X.length - lo) = X.length - lo from Nat.min_eq_right h1]
    rw [List.drop_eq_nil_of_le (show X.length ≤ lo + S.length by omega), List.drop_eq_nil_of_le (show X.length ≤ lo + (X.length - lo) by omega)]

theorem cut_whole (A : Option Addr) (c : Nat) : A = if c = 0 then A else A.map (·.add 0) := by
  split
  · rfl
  · cases A with
    | none => rfl
    | some ad => simp [Addr.add]
section
variable {P : Program} {o : Oper} {a : Act} {W : World}
open Go.Proofs.YtmjhfkjnnpnoaaaW.PrintWords.Kd in
/-- 'copy(s, x)' where s is a row of the call's own, or such a row cut from lo on. -/
theorem copy_run {k : IntKind} {w0 : World} {base bytes : Nat} (ds sr : Operand) (t e : TypeId)
    (ho : o.op = .call { callee := .builtin .copy, args := #[ds, sr], argTypes := #[t, t] })
    (ht : P.underlying t = some (.slice e)) (hinfo : (P.info? e).map (fun i => (i.zero, i.size, i.bytes)) = some (some (.int k 0), 1, bytes))
    (A : Option Addr) (n c : Nat) (xs : List Int) (ok : Nat → Prop) (HO : (Kd.int k).R e W base ok (.slice A n c) xs)
    (lo : Nat) (hlo : lo ≤ n) (A1 : Option Addr) (n1 c1 : Nat) (hs : a.eval ds = .slice A1 n1 c1) (hA1 : A1 = if c = lo then A else A.map (·.add lo)) (hn1 : n1 = n - lo)
    (B : Option Addr) (m c2 : Nat) (ys : List Int) (hx : a.eval sr = .slice B m c2) (HR : (Kd.int k).C W B m ys) (HB : Below base w0 W) :
    ∃ r w1, (execOp a.eval o).run P W = .ok (.value r) w1 ∧ (Kd.int k).R e w1 base ok (.slice A n c) (cpy xs lo ys) ∧ Below base w0 w1 ∧ W.grownBy w1 (Value.slice A n c).ownBlock := by
  obtain ⟨hn, hnc, _⟩ := R_reads' HO
  have HO' := own_of_R (enc := Value.int k) (h1 := fun _ => rfl) HO
  obtain ⟨hm, hmx, hR⟩ := reads_of_C (enc := Value.int k) (d := 0) (h1 := fun _ => rfl) HR
  have hsz : (P.info? e).map (·.size) = some 1 := by
    obtain ⟨i, hi, hz⟩ := Option.map_eq_some_iff.1 hinfo
    simp only [Prod.mk.injEq] at hz
    simp [hi, hz.2.1]
  subst hn
  by_cases h0 : Nat.min ys.length (xs.length - lo) = 0
  · have hrun := run_copy_none (P := P) W t t o.type e A1 B n1 c1 m c2 ht hsz (by rw [hn1, ← hm]; exact h0)
    refine ⟨goInt 0, W, ?_, ?_, HB, ⟨rfl, rfl, rfl, Nat.le_refl _, fun _ _ _ => rfl⟩⟩
    · simp [execOp, ho, resolve, invoke, builtin, hs, hx, hrun, Result.andThen]
    · rw [cpy_none hlo h0]
      exact HO
  · rcases HO'.2 with ⟨hv, hz⟩ | ⟨g, cap, cur, hv, hg, hh, hnc', hcap, hcs, htk⟩
    · exfalso
      apply h0
      rw [show xs.length - lo = 0 by omega]
      exact Nat.min_eq_right (Nat.zero_le _)
    · injection hv with hA hn2 hc
      subst hA
      subst hc
      have hlt : lo < xs.length := by
        rcases Nat.lt_or_ge lo xs.length with h | h
        · exact h
        · exfalso; apply h0; rw [show xs.length - lo = 0 by omega]; exact Nat.min_eq_right (Nat.zero_le _)
      have hcl : ¬ (c = lo) := by omega
      rw [if_neg hcl] at hA1
      have hA2 : A1 = some ⟨g, lo, none⟩ := by rw [hA1, Option.map_some, add_plain]
      subst hA2
      obtain ⟨kk, hkk⟩ : ∃ kk, kk = Nat.min ys.length (xs.length - lo) := ⟨_, rfl⟩
      have hk1 : kk ≤ ys.length := by rw [hkk]; exact Nat.min_le_left _ _
      have hk2 : kk ≤ xs.length - lo := by rw [hkk]; exact Nat.min_le_right _ _
      obtain ⟨ad, rfl, hcell⟩ := hR (by omega)
      have hcur : cur.toList.take xs.length = encs (Value.int k) xs := by simpa using htk
      have hcz : cur.size = c := by simpa using hcs
      have hrun := run_copy_row (P := P) W t t o.type e g lo n1 c1 ad m c2 cur e (encs (Value.int k) (ys.take kk)) ht hsz hh
        (by rw [encs_length, List.length_take, hn1, ← hm, ← hkk]; exact Nat.min_eq_left hk1)
        (fun j v hj => by
          have hjl : j < kk := by
            have := (List.getElem?_eq_some_iff.1 hj).1
            rw [encs_length, List.length_take] at this
            omega
          rw [hcell j (by omega)]
          rw [encs_get (d := 0) (enc := Value.int k) (ys.take kk) j (by rw [List.length_take]; omega)] at hj
          injection hj with hj
          rw [← hj]
          congr 2
          simp [List.getD_eq_getElem?_getD, hjl])
        (by rw [encs_length, List.length_take]; omega)
        (fun v hv => by
          unfold encs at hv
          obtain ⟨y, _, rfl⟩ := List.mem_map.1 hv
          rfl)
      have hl : (encs (Value.int k) (ys.take kk)).length = kk := by rw [encs_length, List.length_take]; omega
      refine ⟨goInt (encs (Value.int k) (ys.take kk)).length, W.setRow g (cur.toList.take lo ++ encs (Value.int k) (ys.take kk) ++ cur.toList.drop (lo + (encs (Value.int k) (ys.take kk)).length)).toArray, ?_, ?_, Go.below_setRow HB hg _, ⟨rfl, rfl, rfl, by simp [World.setRow], fun j _ hj => setRow_other W g j _ (fun e => hj (by rw [e]; rfl))⟩⟩
      · simp [execOp, ho, resolve, invoke, builtin, hs, hx, hrun, Result.andThen]
      · refine R_of_own (enc := Value.int k) (h1 := fun _ => rfl) ?_ (fun j hj => HO.1 j hj)
        have hlen : (cpy xs lo ys).length = xs.length := cpy_length hlo
        rw [hlen]
        refine ⟨by rw [encs_length, hlen]; simp, .inr ⟨g, c, _, rfl, hg, setRow_heap W g _ _ e _ hh, hnc', hcap, ?_, ?_⟩⟩
        · simp only [List.size_toArray, List.length_append, List.length_take, List.length_drop, hl, Array.length_toList]
          omega
        · rw [cpy_some hlo hkk]
          simp only [Nat.mul_one]
          rw [hl]
          have e1 : cur.toList.take lo = encs (Value.int k) (xs.take lo) := by
            have : cur.toList.take lo = (cur.toList.take xs.length).take lo := by rw [List.take_take]; congr 1; omega
            rw [this, hcur]
            simp [encs, List.map_take]
          have e2 : (cur.toList.drop (lo + kk)).take (xs.length - (lo + kk)) = encs (Value.int k) (xs.drop (lo + kk)) := by
            have : (cur.toList.drop (lo + kk)).take (xs.length - (lo + kk)) = (cur.toList.take xs.length).drop (lo + kk) := by
              rw [List.drop_take]
            rw [this, hcur]
            simp [encs, List.map_drop]
          have hl1 : (cur.toList.take lo).length = lo := by rw [List.length_take, Array.length_toList]; omega
          rw [List.append_assoc, List.take_append, hl1, List.take_of_length_le (by rw [hl1]; omega), List.take_append, hl, List.take_of_length_le (show (encs (Value.int k) (ys.take kk)).length ≤ _ by rw [hl]; omega)]
          rw [show xs.length - lo - kk = xs.length - (lo + kk) by omega, e2, e1]
          simp [encs]

variable {ops : Array Oper} {rest : List Oper} {Q : Exit → Act → World → Prop} {Kc : Act → World → Prop}
theorem copy_event {k : IntKind} {w0 : World} {bytes : Nat} (base : Nat) (hgd : o.guard = none) (ds sr : Operand) (t e : TypeId)
    (ho : o.op = .call { callee := .builtin .copy, args := #[ds, sr], argTypes := #[t, t] })
    (ht : P.underlying t = some (.slice e)) (hinfo : (P.info? e).map (fun i => (i.zero, i.size, i.bytes)) = some (some (.int k 0), 1, bytes))
    (A : Option Addr) (n c : Nat) (xs : List Int) (ok : Nat → Prop)
    (lo : Nat) (A1 : Option Addr) (n1 c1 : Nat) (B : Option Addr) (m c2 : Nat) (ys : List Int)
    (hs : a.eval ds = .slice A1 n1 c1) (hx : a.eval sr = .slice B m c2)
    (HO : (Kd.int k).R e W base ok (.slice A n c) xs) (hlo : lo ≤ n) (hA1 : A1 = if c = lo then A else A.map (·.add lo)) (hn1 : n1 = n - lo)
    (HR : (Kd.int k).C W B m ys) (HB : Below base w0 W)
    (h : ∀ r w1, (Kd.int k).R e w1 base ok (.slice A n c) (cpy xs lo ys) → Below base w0 w1 → W.grownBy w1 (Value.slice A n c).ownBlock → wpList P ops Q rest (a.put o.dst r) w1) :
    wpList P ops Q (o :: rest) a W := by
  obtain ⟨r, w1, hrun, h1, h2, h3⟩ := copy_run (P := P) (o := o) (a := a) ds sr t e ho ht hinfo A n c xs ok HO lo hlo A1 n1 c1 hs hA1 hn1 B m c2 ys hx HR HB
  exact Kd.event_run hgd hrun (h r w1 h1 h2 h3)
/-- What is told of a literal whose elements are only read. -/
def Lits {α : Type} (d : Kd α) (w : World) (v : Value) (xs : List α) : Prop := ∃ A c, v = .slice A xs.length c ∧ xs.length ≤ c ∧ d.C w A xs.length xs
theorem lits_C {α : Type} (d : Kd α) (e : TypeId) {xs : List α} {inner : List Value} (hrep : Reps (d.K W) d.sz xs inner) (hm : xs.length ≤ 9223372036854775807) :
    Lits d (W.alloc (.cells inner.toArray e)) (.slice (some ⟨W.heap.size, 0, none⟩) xs.length xs.length) xs := by
  refine ⟨_, _, rfl, Nat.le_refl _, rfl, hm, fun _ => ⟨_, rfl, fun j p hj => ?_⟩⟩
  have hp := hrep.2 j p hj
  refine ⟨_, d.K_len hp, d.K_below (below_alloc (Below.refl _ _) _) hp, fun i u hu => ?_⟩
  rw [add_plain, blk_cell (blk_new W _), List.getElem?_toArray]
  have hi : i < d.sz := by
    have := (List.getElem?_eq_some_iff.1 hu).1
    rw [List.length_take] at this
    omega
  rw [List.getElem?_take, if_pos hi, List.getElem?_drop] at hu
  exact hu
theorem lits_event {α : Type} (d : Kd α) (e : TypeId) (hgd : o.guard = none) {N : Tmp} (_hd : o.dst = some N) {xs : List α} {inner : List Value}
    (hrun : (execOp a.eval o).run P W = .ok (.value (.slice (some ⟨W.heap.size, 0, none⟩) xs.length xs.length)) (W.alloc (.cells inner.toArray e)))
    (hrep : Reps (d.K W) d.sz xs inner) (hm : xs.length ≤ 9223372036854775807)
    (h : ∀ v1 w1, Lits d w1 v1 xs → Below W.heap.size W w1 → wpList P ops Q rest (a.put o.dst v1) w1) : wpList P ops Q (o :: rest) a W :=
  Kd.event_run hgd hrun (h _ _ (lits_C d e hrep hm) (below_alloc (Below.refl _ _) _))
theorem lits_step {α : Type} (d : Kd α) (e : TypeId) (hw : Region.wanted o (yielded ops a.tmps) = true) {N : Tmp} (_hd : o.dst = some N) {xs : List α} {inner : List Value}
    (hrun : (execOp a.eval o).run P W = .ok (.value (.slice (some ⟨W.heap.size, 0, none⟩) xs.length xs.length)) (W.alloc (.cells inner.toArray e)))
    (hrep : Reps (d.K W) d.sz xs inner) (hm : xs.length ≤ 9223372036854775807)
    (h : ∀ v1 w1, Lits d w1 v1 xs → Below W.heap.size W w1 → Kc (a.put o.dst v1) w1) : if Region.wanted o (yielded ops a.tmps) = true then Oper.wp P o a W Kc Q else Kc (a.put o.dst undef) W :=
  event_step hw hrun (h _ _ (lits_C d e hrep hm) (below_alloc (Below.refl _ _) _))
end
section
variable {P : Program}
end
/-! ### Two stores of a region, in either order -/
section
variable {P : Program} {md : Region.Mode} {ops : Array Oper} {Q : Exit → Act → World → Prop} {S : World → Prop} {ds : List Nat}
end
end Go.Proofs.YtmjhfkjnnpnoaaaX
