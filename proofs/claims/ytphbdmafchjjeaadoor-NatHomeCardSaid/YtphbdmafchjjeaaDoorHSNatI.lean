/- Package nat: Take and Give.
   Conditions: the table of package bits stands in memory; counts are small. -/
import Derived.Test.YtphbdmafchjjeaaDoorHSNatH
namespace Go.Proofs.YtphbdmafchjjeaaDoorS
open Go Go.RowKit Go.Proofs Go.Proofs.YtphbdmafchjjeaaDoorX
set_option maxRecDepth 100000
set_option linter.unusedVariables false
set_option linter.unusedSectionVars false
set_option linter.unusedSimpArgs false

/-- Where a search begins. -/
def fromN (lo hi want : Nat) : Nat := if lo ≤ want ∧ want ≤ hi then want else lo
/-- The first free port, from there on, and from the range's start on. -/
def Fst (h : Nat → Bool) (lo hi want n : Nat) : Prop := (fromN lo hi want ≤ n ∧ ∀ j, fromN lo hi want ≤ j → j < n → h j = true) ∨ (n < fromN lo hi want ∧ (∀ j, fromN lo hi want ≤ j → j ≤ hi → h j = true) ∧ ∀ j, lo ≤ j → j < n → h j = true)
theorem Fst.want {h : Nat → Bool} {lo hi want n : Nat} (k : Fst h lo hi want n) (h1 : lo ≤ want) (h2 : want ≤ hi) (h3 : h want = false) : n = want := by
  have e : fromN lo hi want = want := by unfold fromN; rw [if_pos ⟨h1, h2⟩]
  unfold Fst at k
  rw [e] at k
  rcases k with ⟨k1, k2⟩ | ⟨k1, k2, _⟩
  · by_cases h4 : n = want
    · exact h4
    · have := k2 want (Nat.le_refl _) (by omega)
      rw [h3] at this
      cases this
  · have := k2 want (Nat.le_refl _) h2
    rw [h3] at this
    cases this
/-- What Take answers, and what is taken then. -/
def TakeR (us us' : List Us) (pr : Int) (lo hi want : Nat) (e : Ending) : Prop :=
  (e = .returned (.tuple #[.int .u16 0, .int .i64 231]) ∧ (∀ n, lo ≤ n → n ≤ hi → hasU us pr n = true) ∧ (∀ q m, hasU us' q m = hasU us q m) ∧ ∀ q, cntU us' q = cntU us q) ∨
  ∃ n : Nat, e = .returned (.tuple #[.int .u16 (n : Int), .int .i64 0]) ∧ lo ≤ n ∧ n ≤ hi ∧ hasU us pr n = false ∧ Fst (fun m => hasU us pr m) lo hi want n ∧
    (∀ q m, hasU us' q m = (hasU us q m || decide (q = pr ∧ m = n))) ∧ ∀ q, cntU us' q = cntU us q + (if q = pr then 1 else 0)
/-- What Give answers, and what is taken then. -/
def GiveR (us us' : List Us) (pr : Int) (n : Nat) (e : Ending) : Prop :=
  (e = .returned (.int .i64 231) ∧ hasU us pr n = false ∧ us' = us) ∨
  (e = .returned (.int .i64 0) ∧ hasU us pr n = true ∧ (∀ q m, hasU us' q m = (hasU us q m && !decide (q = pr ∧ m = n))) ∧ ∀ q, cntU us' q = cntU us q - (if q = pr then 1 else 0))
/-- The port that is found, or none. -/
def GoodN (l : List Nat) (lo hi want : Nat) (r : Int) : Prop := (r = -1 ∧ ∀ n, lo ≤ n → n ≤ hi → hasV l n = true) ∨ ∃ n : Nat, r = (n : Int) ∧ lo ≤ n ∧ n ≤ hi ∧ hasV l n = false ∧ Fst (fun m => hasV l m) lo hi want n
section
variable {w0 : World} {gP gm lo hi : Nat} {a b : List Us} {u : Us} {R : List Blk} {cs : List Lst} {want : Nat}
theorem map_len (a : List Us) : (a.map ublk).length = a.length := by simp
theorem mid_chg (ha : ∀ x ∈ a, x.p ≠ u.p) {l' : List Nat} {c' : Int} (f : Nat → Bool → Bool) (d : Int) (h1 : ∀ m, hasV l' m = f m (hasV u.l m)) (h2 : c' = u.c + d) :
    (∀ q m, hasU (a ++ ⟨u.p, u.g, l', c'⟩ :: b) q m = if q = u.p then f m (hasU (a ++ u :: b) q m) else hasU (a ++ u :: b) q m) ∧ ∀ q, cntU (a ++ ⟨u.p, u.g, l', c'⟩ :: b) q = cntU (a ++ u :: b) q + (if q = u.p then d else 0) := by
  refine ⟨fun q m => ?_, fun q => ?_⟩
  · unfold hasU
    rw [usL_mid (u := ⟨u.p, u.g, l', c'⟩) ha, usL_mid ha]
    by_cases h : q = u.p
    · rw [if_pos h, if_pos h, if_pos h]
      exact h1 m
    · rw [if_neg h, if_neg h, if_neg h]
  · unfold cntU
    rw [usL_mid (u := ⟨u.p, u.g, l', c'⟩) ha, usL_mid ha]
    by_cases h : q = u.p
    · rw [if_pos h, if_pos h, if_pos h]
      exact h2
    · rw [if_neg h, if_neg h, if_neg h, Int.add_zero]
theorem Take_j4 {w : World} (P : Pts w0 w gP gm lo hi (a ++ u :: b) R cs) (ha : ∀ x ∈ a, x.p ≠ u.p) (h3 : hi ≤ 65535) (hc : -1000000000000000 ≤ u.c ∧ u.c ≤ 1000000000000000) {r : Int} (hr : GoodN u.l lo hi want r)
    {Q : Ending → World → Prop} (hQ : ∀ us' e w', Pts w0 w' gP gm lo hi us' R cs → TakeR (a ++ u :: b) us' u.p lo hi want e → Mf gm w w' → Q e w') : nat_Ports_Take.J4 (some ⟨u.g, 0, none⟩) r w Q := by
  have hl : hasU (a ++ u :: b) u.p = fun n => hasV u.l n := by
    funext n
    unfold hasU
    rw [usL_mid ha, if_pos rfl]
  unfold nat_Ports_Take.J4; intros
  rw [nat_Ports_Take.j4_eq]
  rcases hr with ⟨rfl, h4⟩ | ⟨n, rfl, h4, h5, h6, h7⟩
  · refine ifT (by decide) ?_
    exact hQ _ _ _ P (Or.inl ⟨rfl, fun n h5 h6 => by rw [hl]; exact h4 n h5 h6, fun _ _ => rfl, fun _ => rfl⟩) (Mf.refl _ _)
  refine ifF (by omega) ?_
  have hb : Bm u.l := P.bm u (List.mem_append.2 (Or.inr List.mem_cons_self))
  have hkL : ∀ {v : Blk}, ((gP, 73, pvs lo hi gm) :: ((a.map ublk ++ v :: b.map ublk) ++ R) : List Blk)[a.length + 1]? = some v := fun {v} => by rw [← map_len a]; exact at_mid2 ..
  have hsL : ∀ {v v' : Blk}, ((gP, 73, pvs lo hi gm) :: ((a.map ublk ++ v :: b.map ublk) ++ R) : List Blk).set (a.length + 1) v' = (gP, 73, pvs lo hi gm) :: ((a.map ublk ++ v' :: b.map ublk) ++ R) := fun {v v'} => by rw [← map_len a]; exact set_mid2 ..
  have H := P.mid
  have k1 : Bel w w.drew := (Bel.refl w).drew
  refine draws (fun w' => Bk w' u.g 78 (usd u.l u.c)) ((H.call k1).own.bk (a.length + 1) hkL) fun w2 e2 => ?_
  replace H := H.call k1
  rw [← e2] at H k1
  refine let_as ((n / 64 : Nat) : Int) (by rw [td (by omega), w64 (by omega) (by omega)]; omega) ?_
  refine ⟨_, rfl, ⟨by omega, by omega⟩, ((u.l.getD (n / 64) 0 : Nat) : Int), fun w' h => ?_, ?_⟩
  · rw [Int.toNat_natCast, add_blk, Nat.zero_add]
    exact h.cell _ (usd_get (by rw [hb.len]; omega))
  refine let_as ((n % 64 : Nat) : Int) (by rw [tm (by omega)]; omega) ?_
  refine ⟨by omega, ?_⟩
  refine let_as _ (pw_bit (by omega)) ?_
  have hx := hb.getD (n / 64)
  have hp2 : (2 : Nat) ^ (n % 64) < 2 ^ 64 := Nat.pow_lt_pow_right (by decide) (by omega)
  have hor : u.l.getD (n / 64) 0 ||| 2 ^ (n % 64) < 2 ^ 64 := Nat.or_lt_two_pow hx hp2
  have eor : Go.bits .or .u64 ((u.l.getD (n / 64) 0 : Nat) : Int) ((2 ^ (n % 64) : Nat) : Int) = ((u.l.getD (n / 64) 0 ||| 2 ^ (n % 64) : Nat) : Int) := by
    have e64 : (2 : Nat) ^ 64 = 18446744073709551616 := by decide
    rw [e64] at hx hp2
    generalize u.l.getD (n / 64) 0 = X at hx
    generalize (2 : Nat) ^ (n % 64) = Y at hp2
    rw [u64_or _ _ (by omega) (by omega) (by omega) (by omega), Int.toNat_natCast, Int.toNat_natCast]
  refine let_as _ eor ?_
  have hh := has_or hb (by omega : n ≤ 65535)
  generalize u.l.getD (n / 64) 0 ||| 2 ^ (n % 64) = X at hor hh
  refine ⟨_, rfl, ⟨by omega, by omega⟩, ?_⟩
  rw [Int.toNat_natCast, add_blk, Nat.zero_add]
  refine of_setB (a.length + 1) H hkL (by rw [usd_len, hb.len]; omega) fun w3 H3 u3 => ?_
  rw [hsL, usd_set hb _ (by omega)] at H3
  have hb' : Bm (u.l.set (n / 64) X) := bm_set hb _ hor
  refine ⟨_, rfl, u.c, ?_, ?_⟩
  · rw [add_blk]
    exact (H3.own.bk (a.length + 1) hkL).cell _ (usd_cnt hb'.len)
  refine let_as (u.c + 1) (w64 (by omega) (by omega)) ?_
  refine ⟨_, rfl, ?_⟩
  rw [add_blk]
  refine of_setB (a.length + 1) H3 hkL (by rw [usd_len, hb'.len]; decide) fun w4 H4 u4 => ?_
  rw [hsL] at H4
  have e0 : (usd (u.l.set (n / 64) X) u.c).set (0 + 1024) (.int .i64 (u.c + 1)) = usd (u.l.set (n / 64) X) (u.c + 1) := usd_setc hb' _ _
  rw [e0] at H4
  refine let_as (n : Int) (w16 (by omega) (by omega)) ?_
  have mf : Mf gm w w4 := (Mf.bel gm k1).trans ((Mf.but u3 (H.own.bk (a.length + 1) hkL)).trans (Mf.but u4 (H3.own.bk (a.length + 1) hkL)))
  have mm : ∀ es c, w.heap[gm]? = some (.map es c) → w4.heap[gm]? = some (.map es c) := fun es c hm => but_map u4 (H3.own.bk (a.length + 1) hkL) (but_map u3 (H.own.bk (a.length + 1) hkL) (bel_map k1 hm))
  have chg := mid_chg (a := a) (b := b) (u := u) ha (l' := u.l.set (n / 64) X) (c' := u.c + 1) (fun m x => x || decide (m = n)) 1 hh rfl
  refine hQ (a ++ ⟨u.p, u.g, u.l.set (n / 64) X, u.c + 1⟩ :: b) _ _ (P.of_mid (u' := ⟨u.p, u.g, u.l.set (n / 64) X, u.c + 1⟩) rfl rfl hb' mm H4) (Or.inr ⟨n, rfl, h4, h5, by rw [hl]; exact h6, by rw [hl]; exact h7, fun q m => ?_, chg.2⟩) mf
  rw [chg.1 q m]
  by_cases hq : q = u.p
  · simp [hq]
  · simp [hq]
theorem Take_j3 {w : World} (hT : Tab w) (P : Pts w0 w gP gm lo hi (a ++ u :: b) R cs) (ha : ∀ x ∈ a, x.p ≠ u.p) (h1 : 1 ≤ lo) (h3 : hi ≤ 65535) (hc : -1000000000000000 ≤ u.c ∧ u.c ≤ 1000000000000000) {f : Nat} (hf : lo ≤ f ∧ f ≤ hi) (hw : f = fromN lo hi want)
    {Q : Ending → World → Prop} (hQ : ∀ us' e w', Pts w0 w' gP gm lo hi us' R cs → TakeR (a ++ u :: b) us' u.p lo hi want e → Mf gm w w' → Q e w') : nat_Ports_Take.J3 (some ⟨gP, 0, none⟩) (some ⟨u.g, 0, none⟩) (f : Int) w Q := by
  have hb : Bm u.l := P.bm u (List.mem_append.2 (Or.inr List.mem_cons_self))
  have bk : ∀ {w' : World}, Pts w0 w' gP gm lo hi (a ++ u :: b) R cs → Bk w' u.g 78 (usd u.l u.c) := fun h => memB h.of.own (p := ublk u) (List.mem_cons_of_mem _ (List.mem_append.2 (Or.inl (List.mem_map.2 ⟨u, List.mem_append.2 (Or.inr List.mem_cons_self), rfl⟩))))
  unfold nat_Ports_Take.J3; intros
  rw [nat_Ports_Take.j3_eq]
  have k1 : Bel w w.drew := (Bel.refl w).drew
  refine draws (fun w' => Bk w' gP 73 (pvs lo hi gm)) ((P.call k1).of.own.bk 0 rfl) fun w2 e2 => ?_
  rw [← e2] at k1
  have P2 := P.call k1
  refine ⟨_, rfl, _, rfl, (hi : Int), fun w' h => by rw [add_blk]; exact h.cell 1 rfl, ?_⟩
  refine call_of (free_c (hT.bel k1) hb (bk P2) h3 (by omega)) ?_
  rintro e w5 ⟨r, rfl, rfl, hr⟩
  refine ⟨_, rfl, P2.of.own.bk 0 rfl, ?_⟩
  refine ifD (fun h4 => ?_) (fun h4 => ?_)
  · have hall : ∀ j, f ≤ j → j ≤ hi → hasV u.l j = true := by
      rcases hr with ⟨_, h5⟩ | ⟨m, h5, _⟩
      · exact h5
      · omega
    have k2 : Bel w5 w5.drew := (Bel.refl w5).drew
    refine draws (fun w' => Bk w' gP 73 (pvs lo hi gm)) ((P2.call k2).of.own.bk 0 rfl) fun w3 e3 => ?_
    rw [← e3] at k2
    have P3 := P2.call k2
    refine ⟨_, rfl, _, rfl, (lo : Int), fun w' h => h.cell 0 rfl, ?_⟩
    refine let_as ((f - 1 : Nat) : Int) (by rw [w64 (by omega) (by omega)]; omega) ?_
    refine call_of (free_c ((hT.bel k1).bel k2) hb (bk P3) (by omega) (by omega)) ?_
    rintro e w6 ⟨r2, rfl, rfl, hr2⟩
    refine ⟨_, rfl, P3.of.own.bk 0 rfl, ?_⟩
    have k := Take_j4 P3 ha h3 hc (r := r2) (want := want) (by
      rcases hr2 with ⟨e5, h5⟩ | ⟨m, e5, h5, h6, h7, h8⟩
      · refine Or.inl ⟨e5, fun j h6 h7 => ?_⟩
        by_cases h8 : f ≤ j
        · exact hall j h8 h7
        · exact h5 j h6 (by omega)
      · refine Or.inr ⟨m, e5, h5, by omega, h7, Or.inr ⟨by omega, fun j g1 g2 => hall j (by omega) g2, fun j g1 g2 => h8 j g1 g2⟩⟩) (Q := Q) (fun us' e w' h5 h6 h7 => hQ us' e w' h5 h6 (((Mf.bel gm k1).trans (Mf.bel gm k2)).trans h7))
    exact ⟨by with_reducible apply k⟩
  · have k := Take_j4 P2 ha h3 hc (r := r) (want := want) (by
      rcases hr with ⟨e5, h5⟩ | ⟨m, e5, h5, h6, h7, h8⟩
      · omega
      · refine Or.inr ⟨m, e5, by omega, h6, h7, Or.inl ⟨by omega, fun j g1 g2 => h8 j (by omega) g2⟩⟩) (Q := Q) (fun us' e w' h5 h6 h7 => hQ us' e w' h5 h6 ((Mf.bel gm k1).trans h7))
    exact ⟨by with_reducible apply k⟩
theorem Take_j1 {w : World} (hT : Tab w) (P : Pts w0 w gP gm lo hi (a ++ u :: b) R cs) (ha : ∀ x ∈ a, x.p ≠ u.p) (h1 : 1 ≤ lo) (h2 : lo ≤ hi) (h3 : hi ≤ 65535) (hc : -1000000000000000 ≤ u.c ∧ u.c ≤ 1000000000000000) (hw : want ≤ 65535)
    {Q : Ending → World → Prop} (hQ : ∀ us' e w', Pts w0 w' gP gm lo hi us' R cs → TakeR (a ++ u :: b) us' u.p lo hi want e → Mf gm w w' → Q e w') : nat_Ports_Take.J1 (some ⟨gP, 0, none⟩) (want : Int) (some ⟨u.g, 0, none⟩) w Q := by
  have b0 : Bk w gP 73 (pvs lo hi gm) := P.of.own.bk 0 rfl
  have j2 : ∀ z : Bool, (z = true ↔ (want < lo ∨ hi < want)) → nat_Ports_Take.J2 (some ⟨gP, 0, none⟩) (some ⟨u.g, 0, none⟩) (want : Int) z w Q := fun z hz => by
    unfold nat_Ports_Take.J2; intros
    rw [nat_Ports_Take.j2_eq]
    refine ifB (fun hz1 => ?_) (fun hz1 => ?_)
    · refine ⟨_, rfl, (lo : Int), b0.cell 0 rfl, ?_⟩
      have k := Take_j3 hT P ha h1 h3 hc (f := lo) ⟨Nat.le_refl _, h2⟩ (by have := hz.1 hz1; unfold fromN; rw [if_neg (by omega)]) hQ
      exact ⟨by with_reducible apply k⟩
    · have hn : ¬ (want < lo ∨ hi < want) := fun hx => by rw [hz.2 hx] at hz1; cases hz1
      have k := Take_j3 hT P ha h1 h3 hc (f := want) ⟨by omega, by omega⟩ (by unfold fromN; rw [if_pos ⟨by omega, by omega⟩]) hQ
      exact ⟨by with_reducible apply k⟩
  unfold nat_Ports_Take.J1; intros
  rw [nat_Ports_Take.j1_eq]
  refine let_as (want : Int) (w64 (by omega) (by omega)) ?_
  refine ⟨_, rfl, (lo : Int), b0.cell 0 rfl, ?_⟩
  refine ifD (fun h4 => ?_) (fun h4 => ?_)
  · have k := j2 true ⟨fun _ => Or.inl (by omega), fun _ => rfl⟩
    exact ⟨by with_reducible apply k⟩
  · refine ⟨_, rfl, (hi : Int), by rw [add_blk]; exact b0.cell 1 rfl, ?_⟩
    have k := j2 (decide ((want : Int) > (hi : Int))) ⟨fun hx => by have := of_decide_eq_true hx; omega, fun hx => decide_eq_true (by omega)⟩
    exact ⟨by with_reducible apply k⟩
end
section
variable {w0 w : World} {gP gm lo hi : Nat} {us : List Us} {R : List Blk} {cs : List Lst}
theorem of_new_eq {a : World} {L : List Blk} {t : TypeId} {l l' : List Value} {K : Nat → World → Prop} (e : l = l') (h : OF w0 a L cs) (hk : ∀ g w1, OF w0 w1 ((g, t, l') :: L) cs → Bel a w1 → K g w1) : Let a.heap.size fun g => Let (a.alloc (.cells l.toArray t)) (K g) := by
  subst e
  exact hk _ _ (h.new t l) ((Bel.refl a).alloc _)
/-- A protocol comes to it. -/
theorem Pts.push (P : Pts w0 w gP gm lo hi us R cs) {g7 : Nat} {w1 : World} {pr : Int} (H : OF w0 w1 ((g7, 78, usd zl 0) :: (gP, 73, pvs lo hi gm) :: (us.map ublk ++ R)) cs) {es : Array MapEntry} {c : Nat} (hm : w1.heap[gm]? = some (.map es c)) (he : (es.toList.map fun e => (e.key, e.val)) = us.map uent) :
    Pts w0 (putMap w1 gm (es.push { key := .int .u8 pr, val := .pointer (some ⟨g7, 0, none⟩), born := c }) (c + 1)) gP gm lo hi (us ++ [⟨pr, g7, zl, 0⟩]) R cs := by
  refine ⟨?_, ⟨_, _, putMap_at hm, ?_⟩, P.ge, fun u hu => ?_⟩
  · have H2 := H.but (putMap_but w1 gm (es.push { key := .int .u8 pr, val := .pointer (some ⟨g7, 0, none⟩), born := c }) (c + 1)) P.ge (fun p hp => Ne.symm (map_bk hm (memB H.own hp))) (fun x hx => by_map hm (H.fz x hx).1)
    refine H2.perm ?_
    rw [List.map_append, List.append_assoc]
    refine (List.Perm.swap _ _ _).trans (List.Perm.cons _ ?_)
    exact List.perm_middle.symm
  · rw [Array.toList_push, List.map_append, he, List.map_append]
    rfl
  · rcases List.mem_append.1 hu with hu | hu
    · exact P.bm u hu
    · rw [List.mem_singleton.1 hu]
      exact zl_bm
theorem usL_new {pr : Int} {g7 : Nat} (h : us.find? (fun u => decide (u.p = pr)) = none) (q : Int) : usL (us ++ [⟨pr, g7, zl, 0⟩]) q = usL us q := by
  have ha : ∀ x ∈ us, x.p ≠ pr := fun x hx => by
    have := List.find?_eq_none.1 h x hx
    simpa using this
  rw [usL_mid (u := ⟨pr, g7, zl, 0⟩) ha, List.append_nil]
  by_cases hq : q = pr
  · rw [if_pos hq]
    unfold usL
    rw [hq, h]
  · rw [if_neg hq]
theorem Take_c (hT : Tab w) (P : Pts w0 w gP gm lo hi us R cs) (h1 : 1 ≤ lo) (h2 : lo ≤ hi) (h3 : hi ≤ 65535) {pr : Int} {want : Nat} (hw : want ≤ 65535) (hc : -1000000000000000 ≤ cntU us pr ∧ cntU us pr ≤ 1000000000000000) :
    Calls Tryd.prog 11 #[.pointer (some ⟨gP, 0, none⟩), .int .u8 pr, .int .u16 (want : Int)] w (fun e w' => ∃ us', Pts w0 w' gP gm lo hi us' R cs ∧ TakeR us us' pr lo hi want e ∧ Mf gm w w') := by
  refine nat_Ports_Take.run ?_
  unfold nat_Ports_Take.s
  obtain ⟨es, c, hm, he⟩ := P.mp
  refine ⟨_, rfl, some gm, by rw [add_blk]; exact P.of.own.cell 0 2 rfl rfl, ?_⟩
  obtain ⟨q, hq, hq2⟩ := find_u es.toList us pr 0 he
  cases hf : us.find? fun u => decide (u.p = pr) with
  | none =>
    rw [hf] at hq2
    refine ⟨es, c, q, hm, hq, none, by rw [hq2]; rfl, ?_⟩
    refine ifB (fun _ => ?_) (fun hx => by cases hx)
    refine of_new_eq (l' := usd zl 0) (by kernel_rfl) P.of fun g7 w8 H k8 => ?_
    have hm8 := bel_map k8 hm
    refine ⟨_, rfl, some gm, by rw [add_blk]; exact H.own.cell 1 2 rfl rfl, ?_⟩
    have hq0 : q = none := by
      cases q with
      | none => rfl
      | some x => cases hq2
    rw [hq0] at hq
    refine ⟨gm, es, c, rfl, hm8, hq, ?_⟩
    refine let_as _ rfl ?_
    have P2 := P.push (pr := pr) H hm8 he
    have ha : ∀ x ∈ us, x.p ≠ pr := fun x hx => by
      have := List.find?_eq_none.1 hf x hx
      simpa using this
    have mf : Mf gm w (putMap w8 gm (es.push { key := .int .u8 pr, val := .pointer (some ⟨g7, 0, none⟩), born := c }) (c + 1)) := fun r es2 c2 hr h => by
      have := (putMap_but w8 gm (es.push { key := .int .u8 pr, val := .pointer (some ⟨g7, 0, none⟩), born := c }) (c + 1)).block r (Array.getElem?_eq_some_iff.1 (bel_map k8 h)).1 hr
      exact this.trans (bel_map k8 h)
    have hT2 : Tab (putMap w8 gm (es.push { key := .int .u8 pr, val := .pointer (some ⟨g7, 0, none⟩), born := c }) (c + 1)) := fun i hi => by
      have h0 := (hT.bel k8) i hi
      have hl := World.block_lt_of_cell? w8 _ h0
      rw [add_blk] at h0 hl ⊢
      have hne : 0 ≠ gm := fun e => by
        subst e
        rw [map_cell hm8] at h0
        cases h0
      have hb := (putMap_but w8 gm (es.push { key := .int .u8 pr, val := .pointer (some ⟨g7, 0, none⟩), born := c }) (c + 1)).block 0 hl hne
      unfold World.cell? at h0 ⊢
      rw [hb]
      exact h0
    have k := Take_j1 (a := us) (b := []) (u := ⟨pr, g7, zl, 0⟩) hT2 P2 ha h1 h2 h3 ⟨(by show (-1000000000000000 : Int) ≤ 0; decide), (by show (0 : Int) ≤ 1000000000000000; decide)⟩ hw (Q := fun e w' => ∃ us', Pts w0 w' gP gm lo hi us' R cs ∧ TakeR us us' pr lo hi want e ∧ Mf gm w w') (fun us' e w' h4 h5 h6 => ⟨us', h4, ?_, mf.trans h6⟩)
    · exact ⟨by with_reducible apply k⟩
    · have eH : ∀ q m, hasU (us ++ [⟨pr, g7, zl, 0⟩]) q m = hasU us q m := fun q m => by unfold hasU; rw [usL_new hf]
      have eC : ∀ q, cntU (us ++ [⟨pr, g7, zl, 0⟩]) q = cntU us q := fun q => by unfold cntU; rw [usL_new hf]
      unfold TakeR at h5 ⊢
      simp only [eH, eC] at h5
      exact h5
  | some u =>
    rw [hf] at hq2
    refine ⟨es, c, q, hm, hq, some ⟨u.g, 0, none⟩, by rw [hq2]; rfl, ?_⟩
    refine ifB (fun hx => by cases hx) (fun _ => ?_)
    obtain ⟨a, b, rfl, rfl, ha⟩ := find_parts hf
    have e : cntU (a ++ u :: b) u.p = u.c := by unfold cntU; rw [usL_mid ha, if_pos rfl]
    rw [e] at hc
    have k := Take_j1 hT P ha h1 h2 h3 hc hw (Q := fun e w' => ∃ us', Pts w0 w' gP gm lo hi us' R cs ∧ TakeR (a ++ u :: b) us' u.p lo hi want e ∧ Mf gm w w') (fun us' e w' h4 h5 h6 => ⟨us', h4, h5, h6⟩)
    exact ⟨by with_reducible apply k⟩
theorem Give_c (P : Pts w0 w gP gm lo hi us R cs) {pr : Int} {n : Nat} (hn : n ≤ 65535) (hc : -1000000000000000 ≤ cntU us pr ∧ cntU us pr ≤ 1000000000000000) :
    Calls Tryd.prog 14 #[.pointer (some ⟨gP, 0, none⟩), .int .u8 pr, .int .u16 (n : Int)] w (fun e w' => ∃ us', Pts w0 w' gP gm lo hi us' R cs ∧ GiveR us us' pr n e ∧ Mf gm w w') := by
  refine nat_Ports_Give.run ?_
  unfold nat_Ports_Give.s
  obtain ⟨es, c, hm, he⟩ := P.mp
  refine ⟨_, rfl, some gm, by rw [add_blk]; exact P.of.own.cell 0 2 rfl rfl, ?_⟩
  obtain ⟨q, hq, hq2⟩ := find_u es.toList us pr 0 he
  cases hf : us.find? fun u => decide (u.p = pr) with
  | none =>
    rw [hf] at hq2
    refine ⟨es, c, q, hm, hq, none, by rw [hq2]; rfl, ?_⟩
    refine let_as (n : Int) (w64 (by omega) (by omega)) ?_
    refine ifB (fun _ => ?_) (fun hx => by cases hx)
    refine ⟨us, P, Or.inl ⟨rfl, ?_, rfl⟩, Mf.refl _ _⟩
    unfold hasU usL
    rw [hf]
    exact zl_has n
  | some u =>
    rw [hf] at hq2
    refine ⟨es, c, q, hm, hq, some ⟨u.g, 0, none⟩, by rw [hq2]; rfl, ?_⟩
    refine let_as (n : Int) (w64 (by omega) (by omega)) ?_
    refine ifB (fun hx => by cases hx) (fun _ => ?_)
    obtain ⟨a, b, rfl, rfl, ha⟩ := find_parts hf
    have e : cntU (a ++ u :: b) u.p = u.c := by unfold cntU; rw [usL_mid ha, if_pos rfl]
    rw [e] at hc
    have hl : hasU (a ++ u :: b) u.p = fun n => hasV u.l n := by
      funext n
      unfold hasU
      rw [usL_mid ha, if_pos rfl]
    have hb : Bm u.l := P.bm u (List.mem_append.2 (Or.inr List.mem_cons_self))
    have hkL : ∀ {v : Blk}, ((gP, 73, pvs lo hi gm) :: ((a.map ublk ++ v :: b.map ublk) ++ R) : List Blk)[a.length + 1]? = some v := fun {v} => by rw [← map_len a]; exact at_mid2 ..
    have hsL : ∀ {v v' : Blk}, ((gP, 73, pvs lo hi gm) :: ((a.map ublk ++ v :: b.map ublk) ++ R) : List Blk).set (a.length + 1) v' = (gP, 73, pvs lo hi gm) :: ((a.map ublk ++ v' :: b.map ublk) ++ R) := fun {v v'} => by rw [← map_len a]; exact set_mid2 ..
    have H := P.mid
    refine ⟨_, rfl, ?_⟩
    refine call_of (has_c hb (H.own.bk (a.length + 1) hkL) hn) ?_
    rintro e w1 ⟨rfl, k0⟩
    refine ⟨_, rfl, ?_⟩
    replace P := P.call k0
    replace H := H.call k0
    refine ifNot (fun h4 => ?_) (fun h4 => ?_)
    · exact ⟨_, P, Or.inl ⟨rfl, by rw [hl]; exact h4, rfl⟩, Mf.bel gm k0⟩
    refine ⟨?_⟩
    have k : nat_Ports_Give.J1 (some ⟨u.g, 0, none⟩) (n : Int) w1 (fun e w' => ∃ us', Pts w0 w' gP gm lo hi us' R cs ∧ GiveR (a ++ u :: b) us' u.p n e ∧ Mf gm w w') := by
      unfold nat_Ports_Give.J1; intros
      rw [nat_Ports_Give.j1_eq]
      have k1 : Bel w1 w1.drew := (Bel.refl w1).drew
      refine draws (fun w' => Bk w' u.g 78 (usd u.l u.c)) ((H.call k1).own.bk (a.length + 1) hkL) fun w2 e2 => ?_
      replace H := H.call k1
      rw [← e2] at H k1
      refine let_as ((n / 64 : Nat) : Int) (by rw [td (by omega), w64 (by omega) (by omega)]; omega) ?_
      refine ⟨_, rfl, ⟨by omega, by omega⟩, ((u.l.getD (n / 64) 0 : Nat) : Int), fun w' h => ?_, ?_⟩
      · rw [Int.toNat_natCast, add_blk, Nat.zero_add]
        exact h.cell _ (usd_get (by rw [hb.len]; omega))
      refine let_as ((n % 64 : Nat) : Int) (by rw [tm (by omega)]; omega) ?_
      refine ⟨by omega, ?_⟩
      refine let_as _ (pw_bit (by omega)) ?_
      have hx := hb.getD (n / 64)
      have hp2 : (2 : Nat) ^ (n % 64) < 2 ^ 64 := Nat.pow_lt_pow_right (by decide) (by omega)
      have hor : u.l.getD (n / 64) 0 &&& (18446744073709551615 - 2 ^ (n % 64)) < 2 ^ 64 := Nat.lt_of_le_of_lt Nat.and_le_left hx
      have eor : Go.bits .andNot .u64 ((u.l.getD (n / 64) 0 : Nat) : Int) ((2 ^ (n % 64) : Nat) : Int) = ((u.l.getD (n / 64) 0 &&& (18446744073709551615 - 2 ^ (n % 64)) : Nat) : Int) := by
        have e64 : (2 : Nat) ^ 64 = 18446744073709551616 := by decide
        rw [e64] at hx hp2
        generalize u.l.getD (n / 64) 0 = X at hx
        generalize (2 : Nat) ^ (n % 64) = Y at hp2
        rw [u64_andNot _ _ (by omega) (by omega) (by omega) (by omega), Int.toNat_natCast, Int.toNat_natCast]
      refine let_as _ eor ?_
      have hh := has_not hb (by omega : n ≤ 65535)
      generalize u.l.getD (n / 64) 0 &&& (18446744073709551615 - 2 ^ (n % 64)) = X at hor hh
      refine ⟨_, rfl, ⟨by omega, by omega⟩, ?_⟩
      rw [Int.toNat_natCast, add_blk, Nat.zero_add]
      refine of_setB (a.length + 1) H hkL (by rw [usd_len, hb.len]; omega) fun w3 H3 u3 => ?_
      rw [hsL, usd_set hb _ (by omega)] at H3
      have hb' : Bm (u.l.set (n / 64) X) := bm_set hb _ hor
      refine ⟨_, rfl, u.c, ?_, ?_⟩
      · rw [add_blk]
        exact (H3.own.bk (a.length + 1) hkL).cell _ (usd_cnt hb'.len)
      refine let_as (u.c - 1) (w64 (by omega) (by omega)) ?_
      refine ⟨_, rfl, ?_⟩
      rw [add_blk]
      refine of_setB (a.length + 1) H3 hkL (by rw [usd_len, hb'.len]; decide) fun w4 H4 u4 => ?_
      rw [hsL] at H4
      have e0 : (usd (u.l.set (n / 64) X) u.c).set (0 + 1024) (.int .i64 (u.c - 1)) = usd (u.l.set (n / 64) X) (u.c - 1) := usd_setc hb' _ _
      rw [e0] at H4
      have mf : Mf gm w w4 := (Mf.bel gm k0).trans ((Mf.bel gm k1).trans ((Mf.but u3 (H.own.bk (a.length + 1) hkL)).trans (Mf.but u4 (H3.own.bk (a.length + 1) hkL))))
      have mm : ∀ es c, w1.heap[gm]? = some (.map es c) → w4.heap[gm]? = some (.map es c) := fun es c hm => but_map u4 (H3.own.bk (a.length + 1) hkL) (but_map u3 (H.own.bk (a.length + 1) hkL) (bel_map k1 hm))
      have chg := mid_chg (a := a) (b := b) (u := u) ha (l' := u.l.set (n / 64) X) (c' := u.c - 1) (fun m x => x && !decide (m = n)) (-1) hh (by omega)
      refine ⟨a ++ ⟨u.p, u.g, u.l.set (n / 64) X, u.c - 1⟩ :: b, P.of_mid (u' := ⟨u.p, u.g, u.l.set (n / 64) X, u.c - 1⟩) rfl rfl hb' mm H4, Or.inr ⟨rfl, by rw [hl]; exact h4, fun q m => ?_, fun q => ?_⟩, mf⟩
      · rw [chg.1 q m]
        by_cases hq : q = u.p
        · simp [hq]
        · simp [hq]
      · rw [chg.2 q]
        by_cases hq : q = u.p
        · rw [if_pos hq, if_pos hq]
          rfl
        · rw [if_neg hq, if_neg hq, Int.add_zero, Int.sub_zero]
    exact k ..
end
end Go.Proofs.YtphbdmafchjjeaaDoorS
