/- How a row's arguments and the listed package variables are read: each value with its datum.
   Conditions: none; every statement is proved here. -/
import Derived.Test.YtphbdmafchjjeaaDoorHSLib
import Derived.ChangeArms
import Derived.Deep.Slices
import Derived.SizedLaws
import Derived.OpenShut
namespace Go.Proofs.YtphbdmafchjjeaaDoorS
open Go Go.RowKit Go.Proofs.YtphbdmafchjjeaaDoorX
set_option linter.unusedVariables false
set_option linter.unusedSimpArgs false

abbrev Rdr (H : Type) := World → List Value → DataW H → Prop
/-- What is read at type t is so. -/
def Opn (P : Program) {H : Type} (t : TypeId) (K : Rdr H) : Prop :=
  ∀ (enc : TypeId × Value → H) (w : World) (base : Nat) (spare : Nat → Bool) (held : Bool) (fuel : Nat) (cs : List Value) (x : DataW H × List MemPlace),
    DataW.trod enc P w base spare held fuel t cs = some x → (∀ n ∈ x.1.weights P t, n ≤ reachBytes) → K w cs x.1
def KInt {H : Type} (k : IntKind) : Rdr H := fun _ cs d => ∃ n, cs = [.int k n] ∧ d = .lit (.int k n) ∧ (Lit.int k n).wf = true
def KBool {H : Type} : Rdr H := fun _ cs d => ∃ b, cs = [.bool b] ∧ d = .lit (.bool b)
def KF {H : Type} : List (Nat × Rdr H) → World → List Value → List (DataW H) → Prop
  | [], _, cs, ds => cs = [] ∧ ds = []
  | (sz, K) :: l, w, cs, ds => ∃ a b x y, cs = a ++ b ∧ ds = x :: y ∧ a.length = sz ∧ K w a x ∧ KF l w b y
def KAgg {H : Type} (l : List (Nat × Rdr H)) : Rdr H := fun w cs d => ∃ ds, d = .agg ds ∧ KF l w cs ds
def KSl {H : Type} (sz B : Nat) (K : Rdr H) : Rdr H := fun w cs d =>
  (cs = [.slice none 0 0] ∧ d = .nil) ∨ ∃ a len cap D rest, cs = [.slice (some a) len cap] ∧ d = .slice D rest ∧ len ≤ cap ∧ D.length = len ∧ len * B ≤ 140737488351232 ∧
    ∀ i, i < len → ∃ cs' x, D[i]? = some x ∧ At w (a.add (i * sz)) cs' ∧ K w cs' x
section
variable {P : Program} {H : Type} {t e : TypeId}
theorem opn_int {k : IntKind} (ht : P.underlying t = some (.int k)) : Opn P (H := H) t (KInt k) := by
  intro enc w base spare held fuel cs x h _
  obtain ⟨n, h1, h2, h3⟩ := DataW.trod_int ht h
  exact ⟨n, h1, by rw [h2], h3⟩
theorem trod_bool {enc : TypeId × Value → H} {w : World} {base : Nat} {spare : Nat → Bool} {held : Bool} {fuel : Nat} {cs : List Value} {x : DataW H × List MemPlace} (ht : P.underlying t = some .bool) (h : DataW.trod enc P w base spare held fuel t cs = some x) : ∃ b, cs = [.bool b] ∧ x.1 = .lit (.bool b) := by
  cases fuel with
  | zero => simp [DataW.trod] at h
  | succ n =>
    unfold DataW.trod at h
    rw [ht] at h
    match cs, h with
    | [.bool v], h =>
      simp only at h
      injection h with h
      subst h
      exact ⟨v, rfl, rfl⟩
    | [], h => simp at h
    | .int _ _ :: _, h => simp at h
    | .float _ _ :: _, h => simp at h
    | .string _ :: _, h => simp at h
    | .slice _ _ _ :: _, h => simp at h
    | .agg _ :: _, h => simp at h
    | .pointer _ :: _, h => simp at h
    | .nilIface :: _, h => simp at h
    | .iface _ _ :: _, h => simp at h
    | .map _ :: _, h => simp at h
    | .chan _ :: _, h => simp at h
    | .nilFunc :: _, h => simp at h
    | .func _ _ _ :: _, h => simp at h
    | .bool _ :: _ :: _, h => simp at h
theorem opn_bool (ht : P.underlying t = some .bool) : Opn P (H := H) t KBool := fun _ _ _ _ _ _ _ _ h _ => trod_bool ht h
theorem mem_weightsAll {d : DataW H} {n : Nat} : ∀ {l : List (DataW H)}, d ∈ l → n ∈ d.weights P e → n ∈ DataW.weightsAll P e l
  | x :: l, hd, hn => by
    simp only [DataW.weightsAll, List.mem_append]
    rcases List.mem_cons.1 hd with rfl | hd
    · exact Or.inl hn
    · exact Or.inr (mem_weightsAll hd hn)
theorem opn_slice {sz B : Nat} {K : Rdr H} (ht : P.underlying t = some (.slice e)) (hc : P.cellsOf e = sz) (hB : P.bytesOf e = B) (he : Opn P e K) : Opn P t (KSl sz B K) := by
  intro enc w base spare held fuel cs x hx hs
  rcases Deep.open_slice ht hx with ⟨rfl, rfl⟩ | ⟨a, len, cap, mm, n, D, Pl, rfl, hb, hl, hm, hmm, rfl, hel⟩
  · exact Or.inl ⟨rfl, rfl⟩
  · right
    have hlm : len ≤ mm := by rw [hmm]; split <;> omega
    have hw := hs ((((List.range len).map D).length + ((List.range (mm - len)).map fun j => D (len + j)).length) * P.bytesOf e) (by simp [DataW.weights, ht])
    have hw2 : len * B ≤ 140737488351232 := by
      rw [hB] at hw
      simp only [List.length_map, List.length_range] at hw
      have : len * B ≤ (len + (mm - len)) * B := Nat.mul_le_mul_right _ (by omega)
      exact Nat.le_trans this hw
    refine ⟨a, len, cap, _, _, rfl, rfl, hl, by simp, hw2, fun i hi => ?_⟩
    obtain ⟨cs', h1, h2⟩ := hel i (by omega)
    obtain ⟨_, h3, h4⟩ := World.cells?_some h1
    refine ⟨cs', D i, by simp [hi], fun j u hu => ?_, he enc w base spare held n cs' _ h2 (fun k hk => hs k (by
      simp only [DataW.weights, ht, List.mem_cons, List.mem_append]
      exact Or.inr (Or.inl (mem_weightsAll (List.mem_map.2 ⟨i, List.mem_range.2 hi, rfl⟩) hk))))⟩
    have hj : j < cs'.length := (List.getElem?_eq_some_iff.1 hu).1
    rw [← hc, h4 j (by omega), hu]
/-- The fields of a struct from one on. -/
def OpnF (P : Program) {H : Type} (fs : List Field) (off tot : Nat) (Ks : List (Nat × Rdr H)) : Prop :=
  ∀ (enc : TypeId × Value → H) (w : World) (base : Nat) (spare : Nat → Bool) (held : Bool) (fuel : Nat) (cs : List Value) (xs : List (DataW H × List MemPlace)),
    cs.length = tot → xs.length = fs.length → (∀ (i : Nat) (f : Field), fs[i]? = some f → DataW.trod enc P w base spare held fuel f.type ((cs.drop f.offset).take (P.cellsOf f.type)) = xs[i]?) →
    (∀ n ∈ DataW.weightsEach P (fs.map (·.type)) (xs.map (·.1)), n ≤ reachBytes) → KF Ks w (cs.drop off) (xs.map (·.1))
theorem opnF_nil {tot : Nat} : OpnF P (H := H) [] tot tot [] := by
  intro enc w base spare held fuel cs xs hl hn hx hs
  match xs, hn with
  | [], _ => exact ⟨by rw [← hl, List.drop_length], rfl⟩
theorem opnF_cons {K : Rdr H} {Ks : List (Nat × Rdr H)} {sz : Nat} {f : Field} {fs : List Field} {off tot : Nat} (ho : f.offset = off) (hz : P.cellsOf f.type = sz) (ht : off + sz ≤ tot) (h : Opn P f.type K) (h' : OpnF P fs (off + sz) tot Ks) :
    OpnF P (f :: fs) off tot ((sz, K) :: Ks) := by
  intro enc w base spare held fuel cs xs hl hn hx hs
  match xs, hn with
  | x :: xs, hn =>
    have h0 := hx 0 f rfl
    rw [ho, hz] at h0
    have hK := h enc w base spare held fuel _ x h0 (fun n hn => hs n (by simp only [List.map_cons, DataW.weightsEach, List.mem_append]; exact Or.inl hn))
    have hK' := h' enc w base spare held fuel cs xs hl (by simpa using hn) (fun i f' hf' => by have := hx (i + 1) f' (by simpa using hf'); simpa using this) (fun n hn => hs n (by simp only [List.map_cons, DataW.weightsEach, List.mem_append]; exact Or.inr hn))
    refine ⟨_, _, _, _, ?_, rfl, ?_, hK, hK'⟩
    · rw [← List.drop_drop, List.take_append_drop]
    · rw [List.length_take, List.length_drop]; omega
theorem opn_struct {Ks : List (Nat × Rdr H)} {fs : Array Field} {tot : Nat} (ht : P.underlying t = some (.struct fs)) (hc : P.cellsOf t = tot) (h : OpnF P fs.toList 0 tot Ks) : Opn P t (KAgg Ks) := by
  intro enc w base spare held fuel cs x hx hs
  obtain ⟨xs, n, _, rfl, hl, hlen, hf⟩ := DataW.trod_struct ht hx
  exact ⟨_, rfl, h enc w base spare held n cs xs (by rw [hl, hc]) (by simpa using hlen) (fun i f hf' => hf i f (by simpa using hf')) (fun k hk => hs k (by simp only [DataW.weights, ht]; simpa using hk))⟩
/-- An argument, out of the row's data. -/
theorem opn_arg {enc : TypeId × Value → H} {W : World} {base : Nat} {spare : Nat → Bool} {held : Bool} {K : Rdr H} (h : Opn P t K) {v : Value} {x : DataW H} {ps : List MemPlace} (hx : DataW.Trod enc P W base spare held t v x ps)
    {ts : List TypeId} {ds : List (DataW H)} {j : Nat} (hsz : (DataW.weightsEach P ts ds).all (· ≤ reachBytes) = true) (ht : ts[j]? = some t) (hd : ds[j]? = some x) : K W v.cells.toList x := by
  obtain ⟨fuel, hf⟩ := hx
  exact h enc W base spare held fuel _ _ hf (fun n hn => by
    have := List.all_eq_true.1 hsz _ (DataW.weights_mem_each ht hd n hn)
    simpa using this)
theorem okWide_struct {W : World} {fs : Array Field} {r : Reach} {b : Nat} {v : Value} (ht : P.underlying t = some (.struct fs)) (h : Value.okWide P W r b t v) : ∃ cs, v = .agg cs := by
  simp only [Value.okWide, ht] at h
  cases v <;> simp_all
end
theorem wf_u8 {n : Int} (h : (Lit.int .u8 n).wf = true) : 0 ≤ n ∧ n ≤ 255 := by
  have h1 : IntKind.u8.min = 0 := by decide
  have h2 : IntKind.u8.max = 255 := by decide
  simp [Lit.wf] at h
  omega
theorem wf_u16 {n : Int} (h : (Lit.int .u16 n).wf = true) : 0 ≤ n ∧ n ≤ 65535 := by
  have h1 : IntKind.u16.min = 0 := by decide
  have h2 : IntKind.u16.max = 65535 := by decide
  simp [Lit.wf] at h
  omega
theorem wf_u32 {n : Int} (h : (Lit.int .u32 n).wf = true) : 0 ≤ n ∧ n ≤ 4294967295 := by
  have h1 : IntKind.u32.min = 0 := by decide
  have h2 : IntKind.u32.max = 4294967295 := by decide
  simp [Lit.wf] at h
  omega
theorem wf_i64 {n : Int} (h : (Lit.int .i64 n).wf = true) : -9223372036854775808 ≤ n ∧ n ≤ 9223372036854775807 := by
  have h1 : IntKind.i64.min = -9223372036854775808 := by decide
  have h2 : IntKind.i64.max = 9223372036854775807 := by decide
  simp [Lit.wf] at h
  omega
/-- A list of bytes. -/
theorem bytes_of {H : Type} {w : World} {cs : List Value} {d : DataW H} (h : KSl 1 1 (KInt .u8) w cs d) : ∃ A n c l, cs = [.slice A n c] ∧ By w A n l ∧ Bytes l ∧ n ≤ c ∧ l.length ≤ 140737488351232 := by
  rcases h with ⟨rfl, rfl⟩ | ⟨a, len, cap, D, rest, rfl, rfl, hl, hD, hB, hel⟩
  · exact ⟨none, 0, 0, [], rfl, By.nil _ _, Bytes.nil, Nat.le_refl _, by simp⟩
  · have key : ∀ i, i < len → ∃ x : Int, w.cell? (a.add i) = some (.int .u8 x) ∧ (0 ≤ x ∧ x ≤ 255) := fun i hi => by
      obtain ⟨cs', x, _, hat, n, rfl, _, hwf⟩ := hel i hi
      have := hat 0 _ rfl
      rw [addr_add_zero, Nat.mul_one] at this
      exact ⟨n, this, wf_u8 hwf⟩
    obtain ⟨f, hf⟩ := Deep.choose_lt key
    refine ⟨some a, len, cap, (List.range len).map f, rfl, ⟨by simp, fun _ => ⟨a, rfl, fun i hi => ?_⟩⟩, ?_, hl, by simpa using hB⟩
    · rw [(hf i hi).1]
      simp [List.getD_eq_getElem?_getD, hi]
    · intro x hx
      obtain ⟨i, hi, rfl⟩ := List.mem_map.1 hx
      exact (hf i (List.mem_range.1 hi)).2
end Go.Proofs.YtphbdmafchjjeaaDoorS
