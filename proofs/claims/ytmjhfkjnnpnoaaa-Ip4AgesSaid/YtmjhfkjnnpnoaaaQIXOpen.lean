/- Words for the rows of this session's laws: how arguments of any shape (numbers, slices of slices, structs with slices, slices of structs) are read.
   Conditions: none; every statement is proved here. -/
import Derived.Test.YtmjhfkjnnpnoaaaQIXWords
import Derived.Test.YtmjhfkjnnpnoaaaRows
import Derived.Deep.Slices
import Derived.SizedLaws
import Derived.ChangeArms
import Derived.WideShapes
namespace Go.Proofs.YtmjhfkjnnpnoaaaX
open Go.RowKit Go.Proofs.YtmjhfkjnnpnoaaaW.PrintWords Go.Proofs.YtmjhfkjnnpnoaaaW.PrintLast Go.Proofs.YtmjhfkjnnpnoaaaW.PrintMore

/-- What is read at type t is of the kind d: its value fits (G), and its measure is no greater than the data's bulk. -/
def Opn (P : Program) (t : TypeId) {α : Type} (d : Kd α) (G : α → Prop) (m : α → Nat) : Prop :=
  ∀ (H : Type) (enc : TypeId × Value → H) (w : World) (base : Nat) (spare : Nat → Bool) (held : Bool) (fuel : Nat) (cs : List Value) (x : DataW H × List MemPlace),
    DataW.trod enc P w base spare held fuel t cs = some x → (∀ n ∈ x.1.weights P t, n ≤ reachBytes) → ∃ a, d.K w a cs ∧ G a ∧ m a ≤ Go.Proofs.Ytmjhfkjnnpnoaaa.Rows.uptoBulk x.1

section
variable {P : Program} {t e : TypeId} {α β : Type}
theorem opn_int {k : IntKind} (ht : P.underlying t = some (.int k)) : Opn P t (Kd.int k) (fun n => (Lit.int k n).wf = true) (fun _ => 1) := by
  intro H enc w base spare held fuel cs x h _
  cases fuel with
  | zero => simp [DataW.trod] at h
  | succ n =>
    unfold DataW.trod at h
    rw [ht] at h
    match cs, h with
    | [.int k' v], h =>
      simp only at h
      split at h
      · rename_i hk
        obtain ⟨rfl, hw⟩ := hk
        injection h with h
        subst h
        exact ⟨v, rfl, hw, by simp [Go.Proofs.Ytmjhfkjnnpnoaaa.Rows.uptoBulk]⟩
      · cases h
    | [], h => simp at h
    | .bool _ :: _, h => simp at h
    | .float _ _ :: _, h => simp at h
    | .string _ :: _, h => simp at h
    | .slice _ _ _ :: _, h => simp at h
    | .agg _ :: _, h => simp at h
    | .pointer _ :: _, h => simp at h
    | .nilIface :: _, h => simp at h
    | .iface _ _ :: _, h => simp at h
    | .map _ :: _, h => simp at h
    | .chan _ :: _, h => simp at h
    | .nilFunc :: _, h => simp at h
    | .func _ _ _ :: _, h => simp at h
    | .int _ _ :: _ :: _, h => simp at h
theorem opn_bool (ht : P.underlying t = some .bool) : Opn P t Kd.bool (fun _ => True) (fun _ => 1) := by
  intro H enc w base spare held fuel cs x h _
  cases fuel with
  | zero => simp [DataW.trod] at h
  | succ n =>
    unfold DataW.trod at h
    rw [ht] at h
    match cs, h with
    | [.bool v], h =>
      simp only at h
      injection h with h
      subst h
      exact ⟨v, rfl, trivial, by simp [Go.Proofs.Ytmjhfkjnnpnoaaa.Rows.uptoBulk]⟩
    | [], h => simp at h
    | .int _ _ :: _, h => simp at h
    | .float _ _ :: _, h => simp at h
    | .string _ :: _, h => simp at h
    | .slice _ _ _ :: _, h => simp at h
    | .agg _ :: _, h => simp at h
    | .pointer _ :: _, h => simp at h
    | .nilIface :: _, h => simp at h
    | .iface _ _ :: _, h => simp at h
    | .map _ :: _, h => simp at h
    | .chan _ :: _, h => simp at h
    | .nilFunc :: _, h => simp at h
    | .func _ _ _ :: _, h => simp at h
    | .bool _ :: _ :: _, h => simp at h
theorem opn_iso {d : Kd α} {G : α → Prop} {m : α → Nat} (h : Opn P t d G m) (f : β → α) (g : α → β) (hfg : ∀ a, f (g a) = a) : Opn P t (Kd.iso d f) (fun b => G (f b)) (fun b => m (f b)) := by
  intro H enc w base spare held fuel cs x hx hs
  obtain ⟨a, hK, hG, hm⟩ := h H enc w base spare held fuel cs x hx hs
  exact ⟨g a, (by show d.K w (f (g a)) cs; rw [hfg]; exact hK), (by show G (f (g a)); rw [hfg]; exact hG), (by show m (f (g a)) ≤ _; rw [hfg]; exact hm)⟩

/-- The sum of measures. -/
def sumOf (m : α → Nat) : List α → Nat
  | [] => 0
  | x :: l => m x + sumOf m l
theorem sumOf_le (m : α → Nat) {H : Type} (f : Nat → α) (D : Nat → DataW H) (l : List Nat) (h : ∀ i ∈ l, m (f i) ≤ Go.Proofs.Ytmjhfkjnnpnoaaa.Rows.uptoBulk (D i)) : sumOf m (l.map f) ≤ Go.Proofs.Ytmjhfkjnnpnoaaa.Rows.uptoBulkAll (l.map D) := by
  induction l with
  | nil => simp [sumOf, Go.Proofs.Ytmjhfkjnnpnoaaa.Rows.uptoBulkAll]
  | cons x l ih =>
    have h1 := h x List.mem_cons_self
    have h2 := ih (fun i hi => h i (List.mem_cons_of_mem _ hi))
    simp only [List.map_cons, sumOf, Go.Proofs.Ytmjhfkjnnpnoaaa.Rows.uptoBulkAll]
    omega
theorem mem_weightsAll {H : Type} {e : TypeId} {d : DataW H} {n : Nat} : ∀ {l : List (DataW H)}, d ∈ l → n ∈ d.weights P e → n ∈ DataW.weightsAll P e l
  | x :: l, hd, hn => by
    simp only [DataW.weightsAll, List.mem_append]
    rcases List.mem_cons.1 hd with rfl | hd
    · exact Or.inl hn
    · exact Or.inr (mem_weightsAll hd hn)
open Go.Proofs.YtmjhfkjnnpnoaaaW.PrintWords.Kd in
theorem opn_slice {d : Kd α} {G : α → Prop} {m : α → Nat} [Inhabited α] (ht : P.underlying t = some (.slice e)) (hc : P.cellsOf e = d.sz) {B : Nat} (hB : P.bytesOf e = B) (he : Opn P e d G m) :
    Opn P t (Kd.slice e d) (fun l => l.length * B ≤ 140737488351232 ∧ ∀ a ∈ l, G a) (fun l => 1 + sumOf m l) := by
  intro H enc w base spare held fuel cs x hx hs
  rcases Deep.open_slice ht hx with ⟨rfl, rfl⟩ | ⟨a, len, cap, mm, n, D, Pl, rfl, hb, hl, hm, hmm, rfl, hel⟩
  · exact ⟨[], ⟨none, 0, rfl, Nat.le_refl _, rfl, by simp, fun h => absurd h (by simp)⟩, ⟨by simp, fun a ha => by cases ha⟩, by simp [sumOf, Go.Proofs.Ytmjhfkjnnpnoaaa.Rows.uptoBulk]⟩
  · have hlm : len ≤ mm := by rw [hmm]; split <;> omega
    have key : ∀ i, i < len → ∃ p : α, (∃ cs', cs'.length = d.sz ∧ d.K w p cs' ∧ ∀ j u, cs'[j]? = some u → w.cell? (a.add (i * d.sz + j)) = some u) ∧ G p ∧ m p ≤ Go.Proofs.Ytmjhfkjnnpnoaaa.Rows.uptoBulk (D i) := fun i hi => by
      obtain ⟨cs', h1, h2⟩ := hel i (by omega)
      obtain ⟨_, h3, h4⟩ := World.cells?_some h1
      obtain ⟨p, hK, hG, hmp⟩ := he H enc w base spare held n cs' _ h2 (fun k hk => hs k (by
        simp only [DataW.weights, ht, List.mem_cons, List.mem_append]
        exact Or.inr (Or.inl (mem_weightsAll (List.mem_map.2 ⟨i, List.mem_range.2 hi, rfl⟩) hk))))
      refine ⟨p, ⟨cs', d.K_len hK, hK, fun j u hu => ?_⟩, hG, hmp⟩
      have hj : j < cs'.length := (List.getElem?_eq_some_iff.1 hu).1
      rw [← hc, ← Deep.add_add, h4 j (by omega), hu]
    obtain ⟨f, hf⟩ := Deep.choose_lt key
    have hw := hs ((((List.range len).map D).length + ((List.range (mm - len)).map fun j => D (len + j)).length) * P.bytesOf e) (by simp [DataW.weights, ht])
    have hw2 : len * B ≤ 140737488351232 := by
      rw [hB] at hw
      simp only [List.length_map, List.length_range] at hw
      have : len * B ≤ (len + (mm - len)) * B := Nat.mul_le_mul_right _ (by omega)
      exact Nat.le_trans this hw
    refine ⟨(List.range len).map f, ⟨some a, cap, by simp, by simpa using hl, by simp, ?_, fun _ => ⟨a, rfl, fun j p hj => ?_⟩⟩, ⟨by simpa using hw2, fun p hp => ?_⟩, ?_⟩
    · unfold maxLen at hm
      simp
      omega
    · rw [List.getElem?_map] at hj
      obtain ⟨i, hi, rfl⟩ := Option.map_eq_some_iff.1 hj
      have hil : j < (List.range len).length := (List.getElem?_eq_some_iff.1 hi).1
      rw [List.length_range] at hil
      rw [List.getElem?_range hil] at hi
      injection hi with hi
      subst hi
      obtain ⟨⟨cs', h1, h2, h3⟩, _, _⟩ := hf j hil
      exact ⟨cs', h1, h2, h3⟩
    · obtain ⟨i, hi, rfl⟩ := List.mem_map.1 hp
      exact (hf i (List.mem_range.1 hi)).2.1
    · have := sumOf_le m f D (List.range len) (fun i hi => (hf i (List.mem_range.1 hi)).2.2)
      simp only [Go.Proofs.Ytmjhfkjnnpnoaaa.Rows.uptoBulk]
      omega

/-- The fields of a struct from one on. -/
def OpnF (P : Program) (fs : List Field) (off tot : Nat) {α : Type} (d : Kd α) (G : α → Prop) (m : α → Nat) : Prop :=
  ∀ (H : Type) (enc : TypeId × Value → H) (w : World) (base : Nat) (spare : Nat → Bool) (held : Bool) (fuel : Nat) (cs : List Value) (xs : List (DataW H × List MemPlace)),
    cs.length = tot → xs.length = fs.length → (∀ (i : Nat) (f : Field), fs[i]? = some f → DataW.trod enc P w base spare held fuel f.type ((cs.drop f.offset).take (P.cellsOf f.type)) = xs[i]?) →
    (∀ n ∈ DataW.weightsEach P (fs.map (·.type)) (xs.map (·.1)), n ≤ reachBytes) → ∃ a, d.K w a (cs.drop off) ∧ G a ∧ m a ≤ Go.Proofs.Ytmjhfkjnnpnoaaa.Rows.uptoBulkAll (xs.map (·.1))
theorem opnF_last {d : Kd α} {G : α → Prop} {m : α → Nat} {f : Field} {off tot : Nat} (ho : f.offset = off) (hz : P.cellsOf f.type = d.sz) (htot : tot = off + d.sz) (h : Opn P f.type d G m) : OpnF P [f] off tot d G m := by
  intro H enc w base spare held fuel cs xs hl hn hx hs
  match xs, hn with
  | [x], _ =>
    have h0 := hx 0 f rfl
    rw [ho, hz] at h0
    have e0 : (cs.drop off).take d.sz = cs.drop off := List.take_of_length_le (by rw [List.length_drop]; omega)
    rw [e0] at h0
    obtain ⟨a, hK, hG, hm⟩ := h H enc w base spare held fuel _ x h0 (fun n hn => hs n (by simp [DataW.weightsEach]; exact hn))
    exact ⟨a, hK, hG, by simpa [Go.Proofs.Ytmjhfkjnnpnoaaa.Rows.uptoBulkAll] using hm⟩
theorem opnF_cons {d : Kd α} {d' : Kd β} {G : α → Prop} {G' : β → Prop} {m : α → Nat} {m' : β → Nat} {f : Field} {fs : List Field} {off tot : Nat} (ho : f.offset = off) (hz : P.cellsOf f.type = d.sz) (h : Opn P f.type d G m) (h' : OpnF P fs (off + d.sz) tot d' G' m') :
    OpnF P (f :: fs) off tot (Kd.pair d d') (fun p => G p.1 ∧ G' p.2) (fun p => m p.1 + m' p.2) := by
  intro H enc w base spare held fuel cs xs hl hn hx hs
  match xs, hn with
  | x :: xs, hn =>
    have h0 := hx 0 f rfl
    rw [ho, hz] at h0
    obtain ⟨a, hK, hG, hm⟩ := h H enc w base spare held fuel _ x h0 (fun n hn => hs n (by simp only [List.map_cons, DataW.weightsEach, List.mem_append]; exact Or.inl hn))
    obtain ⟨b, hK', hG', hm'⟩ := h' H enc w base spare held fuel cs xs hl (by simpa using hn) (fun i f' hf' => by have := hx (i + 1) f' (by simpa using hf'); simpa using this) (fun n hn => hs n (by simp only [List.map_cons, DataW.weightsEach, List.mem_append]; exact Or.inr hn))
    refine ⟨(a, b), ⟨(cs.drop off).take d.sz, cs.drop (off + d.sz), ?_, hK, hK'⟩, ⟨hG, hG'⟩, ?_⟩
    · rw [← List.drop_drop, List.take_append_drop]
    · simp only [List.map_cons, Go.Proofs.Ytmjhfkjnnpnoaaa.Rows.uptoBulkAll]
      omega
theorem opn_struct {d : Kd α} {G : α → Prop} {m : α → Nat} {fs : Array Field} {tot : Nat} (ht : P.underlying t = some (.struct fs)) (hc : P.cellsOf t = tot) (h : OpnF P fs.toList 0 tot d G m) : Opn P t d G (fun a => m a + 1) := by
  intro H enc w base spare held fuel cs x hx hs
  obtain ⟨xs, n, _, rfl, hl, hlen, hf⟩ := DataW.trod_struct ht hx
  obtain ⟨a, hK, hG, hm⟩ := h H enc w base spare held n cs xs (by rw [hl, hc]) (by simpa using hlen) (fun i f hf' => hf i f (by simpa using hf')) (fun k hk => hs k (by simp only [DataW.weights, ht]; simpa using hk))
  exact ⟨a, by simpa using hK, hG, by simp only [Go.Proofs.Ytmjhfkjnnpnoaaa.Rows.uptoBulk]; omega⟩
end

section
variable {P : Program} {H : Type} {enc : TypeId × Value → H} {W : World} {base : Nat} {spare : Nat → Bool} {held : Bool}
/-- An argument, out of the row's data. -/
theorem opn_arg {t : TypeId} {α : Type} {d : Kd α} {G : α → Prop} {m : α → Nat} (h : Opn P t d G m) {v : Value} {x : DataW H} {ps : List MemPlace} (hx : DataW.Trod enc P W base spare held t v x ps)
    {ts : List TypeId} {ds : List (DataW H)} {j : Nat} (hsz : (DataW.weightsEach P ts ds).all (· ≤ reachBytes) = true) (ht : ts[j]? = some t) (hd : ds[j]? = some x) :
    ∃ a, d.K W a v.cells.toList ∧ G a ∧ m a ≤ Go.Proofs.Ytmjhfkjnnpnoaaa.Rows.uptoBulk x := by
  obtain ⟨fuel, hf⟩ := hx
  obtain ⟨a, hK, hG, hm⟩ := h H enc W base spare held fuel _ _ hf (fun n hn => by
    have := List.all_eq_true.1 hsz _ (DataW.weights_mem_each ht hd n hn)
    simpa using this)
  exact ⟨a, hK, hG, hm⟩
theorem slice_of_K {e : TypeId} {α : Type} {d : Kd α} {xs : List α} {v : Value} {a : Option Addr} {len cap : Nat} (hv : v = .slice a len cap) (h : (Kd.slice e d).K W xs v.cells.toList) : len = xs.length ∧ xs.length ≤ cap ∧ d.C W a xs.length xs := by
  subst hv
  obtain ⟨A, c, hc, hl, hC⟩ := h
  simp only [Value.cells, List.cons.injEq, Value.slice.injEq, and_true] at hc
  obtain ⟨rfl, rfl, rfl⟩ := hc
  exact ⟨rfl, hl, hC⟩
end
end Go.Proofs.YtmjhfkjnnpnoaaaX
