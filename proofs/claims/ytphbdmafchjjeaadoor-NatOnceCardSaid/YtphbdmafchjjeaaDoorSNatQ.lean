/- Package weftlaw23: NatOnce.
   Conditions: the table of package bits stands in memory; the script is short. -/
import Derived.Test.YtphbdmafchjjeaaDoorSNatP
namespace Go.Proofs.YtphbdmafchjjeaaDoorS
open Go Go.RowKit Go.Proofs Go.Proofs.YtphbdmafchjjeaaDoorX
set_option maxRecDepth 100000
set_option linter.unusedVariables false
set_option linter.unusedSectionVars false
set_option linter.unusedSimpArgs false

/-! ### a step -/
structure NOp where
  k : Int
  on : Bool
  p : Pk
  A : Option Addr
  n : Nat
  c : Nat
  B : Option Addr
  m : Nat
  d : Nat
  t : Tp
  src : Int
  dst : Int
  L : Option Addr
  ln : Nat
  lc : Nat
  pr : Int
  pt : Nat
def nov (o : NOp) : List Value := [.int .i64 o.k, .bool o.on, .int .u8 o.p.tos, .int .u16 o.p.id, .bool o.p.df, .bool o.p.mf, .int .i64 o.p.off, .int .u8 o.p.ttl, .int .u8 o.p.proto, .int .u32 o.p.src, .int .u32 o.p.dst, .slice o.A o.n o.c, .slice o.B o.m o.d,
  .int .u32 o.t.src, .int .u32 o.t.dst, .int .u8 o.t.proto, .int .u16 o.t.sp, .int .u16 o.t.dp, .int .u32 o.src, .int .u32 o.dst, .slice o.L o.ln o.lc, .int .u8 o.pr, .int .u16 (o.pt : Int)]
abbrev noz : List Value := [.int .i64 0, .bool false, .int .u8 0, .int .u16 0, .bool false, .bool false, .int .i64 0, .int .u8 0, .int .u8 0, .int .u32 0, .int .u32 0, .slice none 0 0, .slice none 0 0, .int .u32 0, .int .u32 0, .int .u8 0, .int .u16 0, .int .u16 0, .int .u32 0, .int .u32 0, .slice none 0 0, .int .u8 0, .int .u16 0]
/-- A[:n] holds steps. -/
def NScr (w : World) (A : Option Addr) (n : Nat) : Prop := 0 < n → ∃ a, A = some a ∧ ∀ i, i < n → ∃ o : NOp, At w (a.add (i * 23)) (nov o) ∧ o.pt ≤ 65535

/-! ### who has what -/
structure Iv (us : List Us) (l : List (Int × Int)) (lo hi : Nat) : Prop where
  has : ∀ q (m : Nat), hasU us q m = true ↔ (q, (m : Int)) ∈ l
  cnt : ∀ q, cntU us q = (l.countP (fun x => decide (x.1 = q)) : Int)
  nd : l.Nodup
  rg : ∀ x ∈ l, (lo : Int) ≤ x.2 ∧ x.2 ≤ (hi : Int)
section
variable {us us' : List Us} {l : List (Int × Int)} {lo hi : Nat}
theorem Iv.nil : Iv [] [] lo hi := ⟨fun q m => by rw [hasU_nil]; simp, fun q => by rw [cntU_nil]; rfl, List.nodup_nil, fun x hx => by cases hx⟩
theorem Iv.same (h : Iv us l lo hi) (h1 : ∀ q m, hasU us' q m = hasU us q m) (h2 : ∀ q, cntU us' q = cntU us q) : Iv us' l lo hi :=
  ⟨fun q m => by rw [h1]; exact h.has q m, fun q => by rw [h2]; exact h.cnt q, h.nd, h.rg⟩
theorem Iv.no (h : Iv us l lo hi) {q : Int} {m : Nat} (k : hasU us q m = false) : (q, (m : Int)) ∉ l := fun hm => by
  rw [(h.has q m).2 hm] at k
  cases k
theorem Iv.take (h : Iv us l lo hi) {pr : Int} {n : Nat} (k : hasU us pr n = false) (h3 : lo ≤ n) (h4 : n ≤ hi) (h1 : ∀ q m, hasU us' q m = (hasU us q m || decide (q = pr ∧ m = n))) (h2 : ∀ q, cntU us' q = cntU us q + (if q = pr then 1 else 0)) :
    Iv us' (l ++ [(pr, (n : Int))]) lo hi := by
  refine ⟨fun q m => ?_, fun q => ?_, ?_, fun x hx => ?_⟩
  · rw [h1, Bool.or_eq_true, h.has q m, decide_eq_true_iff, List.mem_append, List.mem_singleton, Prod.mk.injEq]
    constructor
    · rintro (h5 | ⟨rfl, rfl⟩)
      · exact Or.inl h5
      · exact Or.inr ⟨rfl, rfl⟩
    · rintro (h5 | ⟨h5, h6⟩)
      · exact Or.inl h5
      · exact Or.inr ⟨h5, by omega⟩
  · rw [h2, h.cnt q, List.countP_append]
    by_cases hq : q = pr
    · rw [if_pos hq]
      simp [hq]
    · rw [if_neg hq]
      simp [Ne.symm hq]
  · rw [List.nodup_append]
    refine ⟨h.nd, by simp, fun a ha b hb => ?_⟩
    rw [List.mem_singleton.1 hb]
    exact fun e => h.no k (e ▸ ha)
  · rcases List.mem_append.1 hx with hx | hx
    · exact h.rg x hx
    · rw [List.mem_singleton.1 hx]
      exact ⟨by show (lo : Int) ≤ (n : Int); omega, by show (n : Int) ≤ (hi : Int); omega⟩
theorem Iv.give (h : Iv us l lo hi) {pr : Int} {n : Nat} (k : hasU us pr n = true) (h1 : ∀ q m, hasU us' q m = (hasU us q m && !decide (q = pr ∧ m = n))) (h2 : ∀ q, cntU us' q = cntU us q - (if q = pr then 1 else 0)) :
    Iv us' (l.filter fun y => !decide (y = (pr, (n : Int)))) lo hi := by
  have hm := (h.has pr n).1 k
  refine ⟨fun q m => ?_, fun q => ?_, h.nd.sublist List.filter_sublist, fun x hx => h.rg x (List.mem_filter.1 hx).1⟩
  · rw [h1, Bool.and_eq_true, h.has q m, List.mem_filter]
    simp only [Bool.not_eq_true', decide_eq_false_iff_not, Prod.mk.injEq]
    constructor
    · rintro ⟨h5, h6⟩
      exact ⟨h5, fun h7 => h6 ⟨h7.1, by omega⟩⟩
    · rintro ⟨h5, h6⟩
      exact ⟨h5, fun h7 => h6 ⟨h7.1, by omega⟩⟩
  · rw [h2, h.cnt q]
    have e : (l.filter fun y => !decide (y = (pr, (n : Int)))) = l.erase (pr, (n : Int)) := by
      rw [h.nd.erase_eq_filter]
      congr 1
      funext y
      by_cases hy : y = (pr, (n : Int)) <;> simp [hy]
    have e2 := (List.perm_cons_erase hm).countP_eq (fun x => decide (x.1 = q))
    rw [List.countP_cons] at e2
    rw [e, e2]
    by_cases hq : q = pr
    · rw [if_pos hq, if_pos (by simp [hq])]
      omega
    · rw [if_neg hq, if_neg (by simp [Ne.symm hq])]
      omega
theorem Iv.all (h : Iv us l lo hi) (hl : lo ≤ hi) {pr : Int} (k : ∀ n, lo ≤ n → n ≤ hi → hasU us pr n = true) : (l.countP (fun x => decide (x.1 = pr)) : Int) = (hi : Int) - (lo : Int) + 1 := by
  have n2 : ((List.range' lo (hi - lo + 1)).map fun (m : Nat) => ((pr, (m : Int)) : Int × Int)).Nodup := by
    refine List.pairwise_map.2 ((List.nodup_range' (s := lo) (n := hi - lo + 1)).imp fun hne e => hne ?_)
    have := congrArg Prod.snd e
    simp only at this
    omega
  have n1 : (l.filter fun x => decide (x.1 = pr)).Nodup := h.nd.sublist List.filter_sublist
  have p : (l.filter fun x => decide (x.1 = pr)).Perm ((List.range' lo (hi - lo + 1)).map fun (m : Nat) => ((pr, (m : Int)) : Int × Int)) := by
    refine (List.perm_ext_iff_of_nodup n1 n2).2 fun x => ?_
    rw [List.mem_filter, List.mem_map]
    constructor
    · rintro ⟨h1, h2⟩
      have h3 := h.rg x h1
      refine ⟨x.2.toNat, List.mem_range'_1.2 ⟨by omega, by omega⟩, ?_⟩
      have : x.1 = pr := of_decide_eq_true h2
      obtain ⟨a, b⟩ := x
      simp only at this h3 ⊢
      rw [this, Int.toNat_of_nonneg (by omega)]
    · rintro ⟨m, h1, rfl⟩
      have h2 := List.mem_range'_1.1 h1
      exact ⟨(h.has pr m).1 (k m (by omega) (by omega)), decide_eq_true rfl⟩
  have e := p.length_eq
  rw [← List.countP_eq_length_filter, List.length_map, List.length_range'] at e
  rw [e]
  omega
end
end Go.Proofs.YtphbdmafchjjeaaDoorS
