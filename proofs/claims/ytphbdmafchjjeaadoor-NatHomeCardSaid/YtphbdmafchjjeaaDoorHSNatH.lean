/- Package nat: Ports: New, Take, Give, Taken.
   Conditions: the table of package bits stands in memory; counts are small. -/
import Derived.Test.YtphbdmafchjjeaaDoorHSNatG
import Derived.Test.YtphbdmafchjjeaaDoorHSNatD
import Derived.Test.YtphbdmafchjjeaaDoorHSFN2
namespace Go.Proofs.YtphbdmafchjjeaaDoorS
open Go Go.RowKit Go.Proofs Go.Proofs.YtphbdmafchjjeaaDoorX
set_option maxRecDepth 100000
set_option linter.unusedVariables false
set_option linter.unusedSectionVars false
set_option linter.unusedSimpArgs false

/-! ### memory with maps -/
section
variable {w0 a b w w' : World} {L : List Blk} {cs : List Lst}
theorem map_cell {r : Nat} {es : Array MapEntry} {c : Nat} (h : w.heap[r]? = some (.map es c)) (o : Nat) (p : Option _) : w.cell? ⟨r, o, p⟩ = none := by
  unfold World.cell?
  rw [h]
theorem map_bk {r g : Nat} {es : Array MapEntry} {c : Nat} {t : TypeId} {l : List Value} (h : w.heap[r]? = some (.map es c)) (k : Bk w g t l) : r ≠ g := fun e => by
  subst e
  have := h.symm.trans k
  simp at this
theorem by_map {r : Nat} {es : Array MapEntry} {c : Nat} {A : Option Addr} {n : Nat} {l : List Int} (h : w.heap[r]? = some (.map es c)) (y : By w A n l) : 0 < n → ∀ x, A = some x → x.block ≠ r := fun hn x hx e => by
  obtain ⟨z, e1, hc⟩ := y.2 hn
  rw [hx] at e1
  injection e1 with e1
  subst e1
  have h1 := hc 0 hn
  rw [addr_add_zero] at h1
  obtain ⟨xb, xo, xp⟩ := x
  simp only at e
  subst e
  rw [map_cell h] at h1
  cases h1
/-- The other maps are as they were. -/
def Mf (gm : Nat) (w w' : World) : Prop := ∀ r es c, r ≠ gm → w.heap[r]? = some (.map es c) → w'.heap[r]? = some (.map es c)
theorem Mf.refl (gm : Nat) (w : World) : Mf gm w w := fun _ _ _ _ h => h
theorem Mf.trans {gm : Nat} {w1 w2 w3 : World} (h : Mf gm w1 w2) (k : Mf gm w2 w3) : Mf gm w1 w3 := fun r es c hr hm => k r es c hr (h r es c hr hm)
theorem bel_map (k : Bel w w') {r : Nat} {es : Array MapEntry} {c : Nat} (h : w.heap[r]? = some (.map es c)) : w'.heap[r]? = some (.map es c) := (k.block r (Array.getElem?_eq_some_iff.1 h).1).trans h
theorem Mf.bel (gm : Nat) (k : Bel w w') : Mf gm w w' := fun r es c _ h => bel_map k h
theorem but_map {g : Nat} {t : TypeId} {l : List Value} (k : But g w w') (hb : Bk w g t l) {r : Nat} {es : Array MapEntry} {c : Nat} (h : w.heap[r]? = some (.map es c)) : w'.heap[r]? = some (.map es c) :=
  (k.block r (Array.getElem?_eq_some_iff.1 h).1 (map_bk h hb)).trans h
theorem Mf.but {g gm : Nat} {t : TypeId} {l : List Value} (k : But g w w') (hb : Bk w g t l) : Mf gm w w' := fun r es c _ h => but_map k hb h
theorem of_setB (k : Nat) {g i : Nat} {t : TypeId} {l : List Value} {v : Value} {K : World → Prop} (h : OF w0 a L cs) (hk : L[k]? = some (g, t, l)) (hi : i < l.length) (hn : ∀ w1, OF w0 w1 (L.set k (g, t, l.set i v)) cs → But g a w1 → K w1) :
    MayC a ⟨g, i, none⟩ ∧ Let (a.setCell ⟨g, i, none⟩ v) K :=
  ⟨(h.own.bk k hk).may hi, hn _ (h.over k hk (But.set a g i v) ((h.own.bk k hk).set i v)) (But.set a g i v)⟩
theorem OF.but {g : Nat} (h : OF w0 a L cs) (k : But g a b) (hg : w0.heap.size ≤ g) (hL : ∀ p ∈ L, p.1 ≠ g) (hc : ∀ x ∈ cs, 0 < x.2.1 → ∀ c, x.1 = some c → c.block ≠ g) : OF w0 b L cs :=
  ⟨⟨But.bel h.own.bel hg k, fun i g' t l hi => ⟨(h.own.bk i hi).but k (hL _ (List.mem_of_getElem? hi)), h.own.ge i hi⟩, h.own.one⟩, fun x hx => ⟨(h.fz x hx).1.but1 k (hc x hx), (h.fz x hx).2⟩⟩
theorem putMap_but (w : World) (r : Nat) (es : Array MapEntry) (c : Nat) : But r w (putMap w r es c) :=
  ⟨rfl, rfl, rfl, by simp [putMap], fun i _ hi => by simp [putMap, Array.getElem?_setIfInBounds, Ne.symm hi]⟩
theorem putMap_at {r : Nat} {es es' : Array MapEntry} {c c' : Nat} (h : w.heap[r]? = some (.map es c)) : (putMap w r es' c').heap[r]? = some (.map es' c') := by
  have := (Array.getElem?_eq_some_iff.1 h).1
  simp [putMap, Array.getElem?_setIfInBounds, this]
end

/-! ### what is taken -/
/-- What is taken of one protocol: the protocol, the place, the bits, how many. -/
structure Us where
  p : Int
  g : Nat
  l : List Nat
  c : Int
abbrev ublk (u : Us) : Blk := (u.g, 78, usd u.l u.c)
def uent (u : Us) : Value × Value := (.int .u8 u.p, .pointer (some ⟨u.g, 0, none⟩))
def zl : List Nat := List.replicate 1024 0
theorem zl_bm : Bm zl := ⟨by simp [zl], fun x hx => by rw [List.eq_of_mem_replicate hx]; exact Nat.pos_of_ne_zero (by decide)⟩
theorem zl_has (n : Nat) : hasV zl n = false := by
  unfold hasV zl
  have : (List.replicate 1024 0).getD (n / 64) 0 = 0 := by
    rw [List.getD_eq_getElem?_getD, List.getElem?_replicate]
    split <;> rfl
  rw [this, Nat.zero_testBit]
def usL (us : List Us) (q : Int) : List Nat × Int :=
  match us.find? fun u => decide (u.p = q) with
  | some u => (u.l, u.c)
  | none => (zl, 0)
def hasU (us : List Us) (q : Int) (n : Nat) : Bool := hasV (usL us q).1 n
def cntU (us : List Us) (q : Int) : Int := (usL us q).2
abbrev pvs (lo hi gm : Nat) : List Value := [.int .i64 (lo : Int), .int .i64 (hi : Int), .map (some gm)]
structure Pts (w0 w : World) (gP gm lo hi : Nat) (us : List Us) (R : List Blk) (cs : List Lst) : Prop where
  of : OF w0 w ((gP, 73, pvs lo hi gm) :: (us.map ublk ++ R)) cs
  mp : ∃ es c, w.heap[gm]? = some (.map es c) ∧ (es.toList.map fun e => (e.key, e.val)) = us.map uent
  ge : w0.heap.size ≤ gm
  bm : ∀ u ∈ us, Bm u.l
theorem Pts.call {w0 w w' : World} {gP gm lo hi : Nat} {us : List Us} {R : List Blk} {cs : List Lst} (h : Pts w0 w gP gm lo hi us R cs) (k : Bel w w') : Pts w0 w' gP gm lo hi us R cs :=
  ⟨h.of.call k, let ⟨es, c, h1, h2⟩ := h.mp; ⟨es, c, bel_map k h1, h2⟩, h.ge, h.bm⟩
theorem find_u : ∀ (es : List MapEntry) (us : List Us) (i : Int) (n : Nat), (es.map fun e => (e.key, e.val)) = us.map uent →
    ∃ q, Instr.findNow (.int .u8) (.int .u8 i) es n = some q ∧ q.map Prod.snd = (us.find? fun u => decide (u.p = i)).map fun u => Value.pointer (some ⟨u.g, 0, none⟩)
  | [], [], i, n, h => ⟨none, rfl, rfl⟩
  | [], u :: us, i, n, h => by simp at h
  | e :: es, [], i, n, h => by simp at h
  | e :: es, u :: us, i, n, h => by
    simp only [List.map_cons, List.cons.injEq] at h
    obtain ⟨h1, h2⟩ := h
    have hk : e.key = .int .u8 u.p := congrArg Prod.fst h1
    have hv : e.val = .pointer (some ⟨u.g, 0, none⟩) := congrArg Prod.snd h1
    unfold Instr.findNow
    rw [hk]
    by_cases hu : u.p = i
    · subst hu
      have e1 : Instr.sameNow (.int .u8) (.int .u8 u.p) (.int .u8 u.p) = some true := by simp [Instr.sameNow]
      rw [e1]
      refine ⟨_, rfl, ?_⟩
      simp [hv]
    · have e1 : Instr.sameNow (.int .u8) (.int .u8 i) (.int .u8 u.p) = some false := by simp [Instr.sameNow, Ne.symm hu]
      rw [e1]
      obtain ⟨q, h3, h4⟩ := find_u es us i (n + 1) h2
      refine ⟨q, h3, ?_⟩
      rw [h4]
      simp [List.find?_cons, hu]
theorem ptr_getD {q : Option (Nat × Value)} {o : Option Us} (h : q.map Prod.snd = o.map fun u => Value.pointer (some ⟨u.g, 0, none⟩)) : (q.map Prod.snd).getD (.pointer none) = .pointer (o.map fun u => ⟨u.g, 0, none⟩) := by
  rw [h]
  cases o <;> rfl
section
variable {w0 w : World} {gP gm lo hi : Nat} {us : List Us} {R : List Blk} {cs : List Lst}
theorem Taken_c (P : Pts w0 w gP gm lo hi us R cs) (pr : Int) : Calls Tryd.prog 15 #[.pointer (some ⟨gP, 0, none⟩), .int .u8 pr] w (Ret (.int .i64 (cntU us pr)) w) := by
  refine nat_Ports_Taken.run ?_
  unfold nat_Ports_Taken.s
  obtain ⟨es, c, hm, he⟩ := P.mp
  refine ⟨_, rfl, some gm, by rw [add_blk]; exact P.of.own.cell 0 2 rfl rfl, ?_⟩
  obtain ⟨q, hq, hq2⟩ := find_u es.toList us pr 0 he
  refine ⟨es, c, q, hm, hq, _, ptr_getD hq2, ?_⟩
  cases hf : us.find? fun u => decide (u.p = pr) with
  | none =>
    have e : cntU us pr = 0 := by unfold cntU usL; rw [hf]
    rw [e]
    exact ⟨rfl, Bel.refl w⟩
  | some u =>
    have e : cntU us pr = u.c := by unfold cntU usL; rw [hf]
    rw [e]
    have hmem := List.mem_of_find?_eq_some hf
    have hb : Bk w u.g 78 (usd u.l u.c) := memB P.of.own (p := ublk u) (List.mem_cons_of_mem _ (List.mem_append.2 (Or.inl (List.mem_map.2 ⟨u, hmem, rfl⟩))))
    refine ⟨_, rfl, u.c, ?_, rfl, Bel.refl w⟩
    rw [add_blk]
    exact hb.cell 1024 (usd_cnt (P.bm u hmem).len)
def RetNew (w : World) (lo hi : Nat) (e : Ending) (w' : World) : Prop := if lo = 0 ∨ hi < lo then e = .returned (.tuple #[.pointer none, .int .i64 1]) ∧ Bel w w' else ∃ gP gm, e = .returned (.tuple #[.pointer (some ⟨gP, 0, none⟩), .int .i64 0]) ∧ Pts w w' gP gm lo hi [] [] []
theorem RetNew.no {w : World} {lo hi : Nat} (h : lo = 0 ∨ hi < lo) : RetNew w lo hi (.returned (.tuple #[.pointer none, .int .i64 1])) w := by
  unfold RetNew
  rw [if_pos h]
  exact ⟨rfl, Bel.refl w⟩
theorem New_c (w : World) {lo hi : Nat} (hl : lo ≤ 65535) (hh : hi ≤ 65535) : Calls Tryd.prog 10 #[.int .u16 (lo : Int), .int .u16 (hi : Int)] w (RetNew w lo hi) := by
  refine nat_New.run ?_
  unfold nat_New.s
  refine ifE (fun h1 => ?_) (fun h1 => ?_)
  · exact RetNew.no (Or.inl (by omega))
  refine ifD (fun h2 => ?_) (fun h2 => ?_)
  · exact RetNew.no (Or.inr (by omega))
  refine ⟨?_⟩
  have k : nat_New.J1 (lo : Int) (hi : Int) w (RetNew w lo hi) := by
    unfold nat_New.J1; intros
    rw [nat_New.j1_eq]
    refine let_as (lo : Int) (w64 (by omega) (by omega)) ?_
    refine let_as (hi : Int) (w64 (by omega) (by omega)) ?_
    refine let_as w.heap.size rfl (let_as (w.alloc (.map #[] 0)) rfl ?_)
    have k1 : Bel w (w.alloc (.map #[] 0)) := (Bel.refl w).alloc _
    have hm : (w.alloc (.map #[] 0)).heap[w.heap.size]? = some (.map #[] 0) := heap_alloc_new w _
    refine own_newC ((Own.refl w).call k1) (l := pvs lo hi w.heap.size) fun g w2 H k2 _ => ?_
    unfold RetNew
    rw [if_neg (by omega)]
    exact ⟨g, w.heap.size, rfl, ⟨H, fun x hx => by cases hx⟩, ⟨_, _, bel_map k2 hm, rfl⟩, Nat.le_refl _, fun u hu => by cases hu⟩
  exact k ..
end

/-! ### a bit is set, a bit is taken out -/
theorem has_set {l : List Nat} (hb : Bm l) {n : Nat} (hn : n ≤ 65535) (x : Nat) (m : Nat) : hasV (l.set (n / 64) x) m = if m / 64 = n / 64 then x.testBit (m % 64) else hasV l m := by
  unfold hasV
  have hl := hb.len
  by_cases h : m / 64 = n / 64
  · rw [if_pos h, h, List.getD_eq_getElem?_getD, List.getElem?_set_self (by omega)]
    rfl
  · rw [if_neg h, List.getD_eq_getElem?_getD, List.getElem?_set_ne (by omega), ← List.getD_eq_getElem?_getD]
theorem has_or {l : List Nat} (hb : Bm l) {n : Nat} (hn : n ≤ 65535) (m : Nat) : hasV (l.set (n / 64) (l.getD (n / 64) 0 ||| 2 ^ (n % 64))) m = (hasV l m || decide (m = n)) := by
  rw [has_set hb hn]
  by_cases h : m / 64 = n / 64
  · rw [if_pos h, Nat.testBit_or, Nat.testBit_two_pow]
    have e : hasV l m = (l.getD (n / 64) 0).testBit (m % 64) := by unfold hasV; rw [h]
    rw [e]
    congr 1
    by_cases h2 : m = n
    · subst h2; simp
    · have : n % 64 ≠ m % 64 := fun e => h2 (by omega)
      simp [this, h2]
  · rw [if_neg h]
    have : m ≠ n := fun e => h (by rw [e])
    simp [this]
theorem has_not {l : List Nat} (hb : Bm l) {n : Nat} (hn : n ≤ 65535) (m : Nat) : hasV (l.set (n / 64) (l.getD (n / 64) 0 &&& (18446744073709551615 - 2 ^ (n % 64)))) m = (hasV l m && !decide (m = n)) := by
  rw [has_set hb hn]
  by_cases h : m / 64 = n / 64
  · have h2 : (2 : Nat) ^ (n % 64) < 2 ^ 64 := Nat.pow_lt_pow_right (by decide) (by omega)
    have h3 : m % 64 < 64 := by omega
    rw [if_pos h, Nat.testBit_and, show (18446744073709551615 - 2 ^ (n % 64) : Nat) = 2 ^ 64 - 1 - 2 ^ (n % 64) from rfl, not_bit h2, Nat.testBit_two_pow]
    have e : hasV l m = (l.getD (n / 64) 0).testBit (m % 64) := by unfold hasV; rw [h]
    rw [e]
    congr 1
    by_cases h4 : m = n
    · subst h4; simp
    · have : n % 64 ≠ m % 64 := fun e => h4 (by omega)
      simp [this, h4, h3]
  · rw [if_neg h]
    have : m ≠ n := fun e => h (by rw [e])
    simp [this]
theorem bm_set {l : List Nat} (hb : Bm l) (i : Nat) {x : Nat} (hx : x < 2 ^ 64) : Bm (l.set i x) := ⟨by rw [List.length_set]; exact hb.len, fun y hy => by
  rcases List.mem_or_eq_of_mem_set hy with hy | rfl
  · exact hb.lt y hy
  · exact hx⟩
theorem usd_set {l : List Nat} (hb : Bm l) (c : Int) {i : Nat} (hi : i < 1024) (x : Nat) : (usd l c).set i (.int .u64 (x : Int)) = usd (l.set i x) c := by
  unfold usd
  rw [List.set_append_left _ _ (by simp [uvs, hb.len]; omega)]
  congr 1
  unfold uvs
  rw [List.map_set]
theorem usd_setc {l : List Nat} (hb : Bm l) (c c' : Int) : (usd l c).set 1024 (.int .i64 c') = usd l c' := by
  unfold usd
  rw [List.set_append_right _ _ (by simp [uvs, hb.len])]
  simp [uvs, hb.len]
theorem pw_bit {k : Nat} (h : k < 64) : IntKind.u64.wrap (1 * (2 : Int) ^ (min ((k : Nat) : Int).toNat 64)) = ((2 ^ k : Nat) : Int) := by
  have h2 : (2 : Nat) ^ k < 2 ^ 64 := Nat.pow_lt_pow_right (by decide) h
  have e64 : (2 : Nat) ^ 64 = 18446744073709551616 := by decide
  rw [e64] at h2
  have e : ((2 : Int) ^ k) = ((2 ^ k : Nat) : Int) := by simp
  rw [Int.toNat_natCast, Nat.min_eq_left (by omega), Int.one_mul, e]
  generalize (2 : Nat) ^ k = N at h2
  exact u64_small (by omega) (by omega)
theorem at_mid2 {α : Type} (x u : α) (A B R : List α) : (x :: ((A ++ u :: B) ++ R))[A.length + 1]? = some u := by
  simp
theorem set_mid2 {α : Type} (x u v : α) (A B R : List α) : (x :: ((A ++ u :: B) ++ R)).set (A.length + 1) v = x :: ((A ++ v :: B) ++ R) := by
  simp
theorem find_mid {a b : List Us} {u : Us} {q : Int} (ha : ∀ x ∈ a, x.p ≠ u.p) : (a ++ u :: b).find? (fun x => decide (x.p = q)) = if q = u.p then some u else (a ++ b).find? (fun x => decide (x.p = q)) := by
  rw [List.find?_append, List.find?_append]
  by_cases h : q = u.p
  · subst h
    rw [if_pos rfl]
    have : a.find? (fun x => decide (x.p = u.p)) = none := List.find?_eq_none.2 fun x hx => by simpa using ha x hx
    rw [this]
    simp
  · rw [if_neg h]
    simp [List.find?_cons, Ne.symm h]
theorem usL_mid {a b : List Us} {u : Us} (ha : ∀ x ∈ a, x.p ≠ u.p) (q : Int) : usL (a ++ u :: b) q = if q = u.p then (u.l, u.c) else usL (a ++ b) q := by
  unfold usL
  rw [find_mid ha]
  by_cases h : q = u.p
  · rw [if_pos h, if_pos h]
  · rw [if_neg h, if_neg h]
theorem find_parts {us : List Us} {pr : Int} {u : Us} (h : us.find? (fun x => decide (x.p = pr)) = some u) : ∃ a b, us = a ++ u :: b ∧ u.p = pr ∧ ∀ x ∈ a, x.p ≠ u.p := by
  obtain ⟨h1, a, b, e, h2⟩ := List.find?_eq_some_iff_append.1 h
  have hp : u.p = pr := by simpa using h1
  exact ⟨a, b, e, hp, fun x hx => by have := h2 x hx; rw [hp]; simpa using this⟩
/-- One protocol's record is changed: the bits, the count. -/
theorem Pts.mid {w0 w : World} {gP gm lo hi : Nat} {a b : List Us} {u : Us} {R : List Blk} {cs : List Lst} (P : Pts w0 w gP gm lo hi (a ++ u :: b) R cs) : OF w0 w ((gP, 73, pvs lo hi gm) :: ((a.map ublk ++ ublk u :: b.map ublk) ++ R)) cs := by
  have := P.of
  rwa [List.map_append] at this
theorem Pts.of_mid {w0 w w' : World} {gP gm lo hi : Nat} {a b : List Us} {u u' : Us} {R : List Blk} {cs : List Lst} (P : Pts w0 w gP gm lo hi (a ++ u :: b) R cs) (hp : u'.p = u.p) (hg : u'.g = u.g) (hb : Bm u'.l) (hm : ∀ es c, w.heap[gm]? = some (.map es c) → w'.heap[gm]? = some (.map es c))
    (H : OF w0 w' ((gP, 73, pvs lo hi gm) :: ((a.map ublk ++ ublk u' :: b.map ublk) ++ R)) cs) : Pts w0 w' gP gm lo hi (a ++ u' :: b) R cs := by
  refine ⟨by rw [List.map_append]; exact H, ?_, P.ge, fun x hx => ?_⟩
  · obtain ⟨es, c, h1, h2⟩ := P.mp
    refine ⟨es, c, hm _ _ h1, ?_⟩
    rw [h2, List.map_append, List.map_append, List.map_cons, List.map_cons]
    have : uent u' = uent u := by unfold uent; rw [hp, hg]
    rw [this]
  · rcases List.mem_append.1 hx with hx | hx
    · exact P.bm x (List.mem_append.2 (Or.inl hx))
    · rcases List.mem_cons.1 hx with rfl | hx
      · exact hb
      · exact P.bm x (List.mem_append.2 (Or.inr (List.mem_cons_of_mem _ hx)))
end Go.Proofs.YtphbdmafchjjeaaDoorS
