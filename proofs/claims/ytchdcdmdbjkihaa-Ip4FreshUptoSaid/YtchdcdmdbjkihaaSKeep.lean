/- Package weftlaw3: lists that are written full, and on beyond their ends, each with a mark of its own.
   Conditions: the lists are regions of blocks of one's own. -/
import Derived.Test.YtchdcdmdbjkihaaSScr
import Derived.Test.YtchdcdmdbjkihaaSFV
namespace Go.Proofs.YtchdcdmdbjkihaaS
open Go Go.RowKit Go.Proofs Go.Proofs.YtchdcdmdbjkihaaX
set_option maxRecDepth 100000
set_option linter.unusedVariables false
set_option linter.unusedSectionVars false
set_option linter.unusedSimpArgs false

/-! ### marks -/
def patv (m i : Int) : Int := IntKind.u8.wrap (Int.fdiv m ((2 : Int) ^ (min (IntKind.i64.wrap (8 * Int.tmod i 3)).toNat 64)))
def pt (m : Int) (k : Nat) : List Int := (List.range k).map fun (j : Nat) => patv m (j : Int)
theorem pt_len (m : Int) (k : Nat) : (pt m k).length = k := by simp [pt]
theorem pt_get (m : Int) {k j : Nat} (h : j < k) : (pt m k)[j]? = some (patv m (j : Int)) := by simp [pt, h]
theorem pt_succ (m : Int) (k : Nat) : pt m (k + 1) = pt m k ++ [patv m (k : Int)] := by simp [pt, List.range_succ]
theorem pat_c {w : World} (m : Int) {i : Int} (hi : 0 ≤ i) : Calls Try.prog 41 #[.int .i64 m, .int .i64 i] w (fun e w' => e = .returned (.int .u8 (patv m i)) ∧ w' = w) := by
  refine weftlaw3_pat.run ?_
  unfold weftlaw3_pat.s
  refine let_id (let_id ⟨?_, let_id (let_id ⟨rfl, rfl⟩)⟩)
  rw [tm hi, w64 (by omega) (by omega)]
  omega
theorem far_c {w : World} (r : Int) : Calls Try.prog 42 #[.int .i64 r] w (fun e w' => e = .returned (.int .i64 (if 70000 < r then 70000 else r)) ∧ w' = w) := by
  refine weftlaw3_far.run ?_
  unfold weftlaw3_far.s
  exact let_id ⟨rfl, rfl⟩

/-! ### regions -/
/-- From place f on stand k bytes of the mark m. -/
def Pt (m : Int) (f k : Nat) (X : List Int) : Prop := ∀ j, j < k → X[f + j]? = some (patv m (j : Int))
/-- Nothing outside of the region has changed. -/
def Out (f c : Nat) (X0 X : List Int) : Prop := X.length = X0.length ∧ ∀ j, (j < f ∨ f + c ≤ j) → X[j]? = X0[j]?
/-- A region of c bytes from f on in a block with the bytes X, or none. -/
def Rg (ob : Option Blk) (A : Option Addr) (c f : Nat) (X : List Int) : Prop := (ob = none ∧ A = none ∧ c = 0) ∨ ∃ g, ob = some (g, 5, bv X) ∧ A = some ⟨g, f, none⟩ ∧ f + c ≤ X.length
theorem splice_get (l vs : List Int) (o : Nat) (h : o + vs.length ≤ l.length) (j : Nat) : (splice l o vs)[j]? = if o ≤ j ∧ j < o + vs.length then vs[j - o]? else l[j]? := by
  unfold splice
  by_cases h1 : j < o
  · rw [if_neg (by omega), List.append_assoc, List.getElem?_append_left (by simp; omega), List.getElem?_take_of_lt h1]
  · by_cases h2 : j < o + vs.length
    · rw [if_pos ⟨by omega, h2⟩, List.append_assoc, List.getElem?_append_right (by simp; omega), List.getElem?_append_left (by simp; omega)]
      congr 1
      simp
      omega
    · rw [if_neg (by omega), List.getElem?_append_right (by simp; omega), List.getElem?_drop]
      congr 1
      simp
      omega
theorem Out.refl (f c : Nat) (X : List Int) : Out f c X X := ⟨rfl, fun j _ => rfl⟩
theorem Out.splice {f c : Nat} {X0 X b : List Int} {o : Nat} (h : Out f c X0 X) (h1 : f ≤ o) (h2 : o + b.length ≤ f + c) (h3 : f + c ≤ X.length) : Out f c X0 (splice X o b) :=
  ⟨(splice_len X b o (by omega)).trans h.1, fun j hj => by rw [splice_get X b o (by omega), if_neg (by omega)]; exact h.2 j hj⟩
/-- The mark's next bytes are written. -/
theorem Pt.splice {m : Int} {f k i : Nat} {X b : List Int} (h : Pt m f k X) (hi : i ≤ k) (hX : f + i + b.length ≤ X.length) (hb : ∀ j, j < b.length → b[j]? = some (patv m ((i + j : Nat) : Int))) : Pt m f (max k (i + b.length)) (splice X (f + i) b) := fun j hj => by
  rw [splice_get X b _ hX]
  split
  · rename_i h1
    rw [hb _ (by omega), show i + (f + j - (f + i)) = j by omega]
  · rename_i h1
    exact h j (by omega)
theorem Pt.mono {m : Int} {f k i : Nat} {X : List Int} (h : Pt m f k X) (hi : i ≤ k) : Pt m f i X := fun j hj => h j (by omega)
theorem Pt.out {m : Int} {f k f' c : Nat} {X0 X : List Int} (h : Pt m f k X0) (h' : Out f' c X0 X) (hd : f + k ≤ f' ∨ f' + c ≤ f) : Pt m f k X := fun j hj => by
  rw [h'.2 _ (by omega)]
  exact h j hj
section
variable {w0 a : World} {R : List Blk} {cs : List Lst} {ob : Option Blk} {A : Option Addr} {c f : Nat} {X : List Int}
theorem bk_sub {w : World} {g : Nat} {t : TypeId} (h : Bk w g t (bv X)) {n : Nat} {l : List Int} (hl : l.length = n) (hX : ∀ j, j < n → X[f + j]? = l[j]?) : By w (some ⟨g, f, none⟩) n l :=
  ⟨hl, fun _ => ⟨_, rfl, fun i hi => by
    rw [add_blk]
    have e := hX i hi
    rw [List.getElem?_eq_getElem (by omega : i < l.length)] at e
    have hlt := (List.getElem?_eq_some_iff.1 e).1
    rw [h.cell (f + i) (bv_get X (f + i) hlt), List.getD_eq_getElem?_getD, List.getD_eq_getElem?_getD, e, List.getElem?_eq_getElem (by omega : i < l.length)]⟩⟩
theorem Rg.by (h : Own w0 a (ob.toList ++ R)) (q : Rg ob A c f X) {n : Nat} (hn : n ≤ c) {l : List Int} (hl : l.length = n) (hX : ∀ j, j < n → X[f + j]? = l[j]?) : By a A n l := by
  rcases q with ⟨rfl, rfl, rfl⟩ | ⟨g, rfl, rfl, h1⟩
  · obtain rfl : n = 0 := by omega
    obtain rfl := List.eq_nil_of_length_eq_zero hl
    exact By.nil _ _
  · exact bk_sub (h.bk 0 rfl) hl hX
theorem Rg.pt (h : Own w0 a (ob.toList ++ R)) (q : Rg ob A c f X) {n k : Nat} {m : Int} (hn : n ≤ c) (hk : n ≤ k) (hp : Pt m f k X) : By a A n (pt m n) :=
  q.by h hn (pt_len m n) fun j hj => by rw [hp j (by omega), pt_get m hj]
/-- Blocks that are written no more. -/
theorem OF.ice {g : Nat} {t : TypeId} {l : List Value} {E : List Lst} (h : OF w0 a ((g, t, l) :: R) cs) (hE : ∀ x ∈ E, By a x.1 x.2.1 x.2.2 ∧ (0 < x.2.1 → ∃ o, x.1 = some ⟨g, o, none⟩)) : OF w0 a R (E ++ cs) :=
  ⟨h.tail.own, fun x hx => by
    rcases List.mem_append.1 hx with hx | hx
    · refine ⟨(hE x hx).1, fun hn b e p hp => ?_⟩
      obtain ⟨o, e2⟩ := (hE x hx).2 hn
      rw [e] at e2
      injection e2 with e2
      subst e2
      have := h.own.one
      rw [List.map_cons, List.nodup_cons] at this
      intro e3
      exact this.1 (List.mem_map.2 ⟨p, hp, e3.symm⟩)
    · exact h.tail.fz x hx⟩
/-- A byte of a region is written. -/
theorem rg_set (h : OF w0 a (ob.toList ++ R) cs) (q : Rg ob A c f X) {i : Nat} (hi : i < c) {v : Int} {K : World → Prop} (hK : ∀ w1 ob', OF w0 w1 (ob'.toList ++ R) cs → Rg ob' A c f (X.set (f + i) v) → K w1) :
    ∃ b, A = some b ∧ (MayC a (b.add i) ∧ Let (a.setCell (b.add i) (.int .u8 v)) K) := by
  rcases q with ⟨_, _, h0⟩ | ⟨g, rfl, rfl, h1⟩
  · omega
  · refine ⟨_, rfl, ?_⟩
    rw [add_blk]
    refine of_set 0 h rfl (by rw [bv_len]; omega) fun w1 H => ?_
    refine hK w1 (some (g, 5, bv (X.set (f + i) v))) ?_ (Or.inr ⟨g, rfl, rfl, by rw [List.length_set]; exact h1⟩)
    rw [← bv_set]
    exact H
theorem rg_setI (h : OF w0 a (ob.toList ++ R) cs) (q : Rg ob A c f X) {i n : Nat} (hi : i < n) (hn : n ≤ c) {v : Int} {K : Addr → World → Prop} (hK : ∀ bb w1 ob', OF w0 w1 (ob'.toList ++ R) cs → Rg ob' A c f (X.set (f + i) v) → K bb w1) :
    ∃ b, A = some b ∧ (0 ≤ (i : Int) ∧ (i : Int) < (n : Int)) ∧ (MayC a (b.add (i : Int).toNat) ∧ Let (a.setCell (b.add (i : Int).toNat) (.int .u8 v)) (K b)) := by
  obtain ⟨b, hb, h1, h2⟩ := rg_set (K := fun w1 => ∀ bb, K bb w1) h q (i := i) (by omega) (v := v) (fun w1 ob' h1 h2 bb => hK bb w1 ob' h1 h2)
  refine ⟨b, hb, ⟨by omega, by omega⟩, ?_⟩
  rw [Int.toNat_natCast]
  exact ⟨h1, h2 b⟩
/-- An append to the list in a region. -/
theorem rg_app (h : OF w0 a (ob.toList ++ R) cs) (q : Rg ob A c f X) {n m : Nat} (hn : n ≤ c) {l b : List Int} (hl : l.length = n) (hX : ∀ j, j < n → X[f + j]? = l[j]?) (hb : b.length = m) (hm : 0 < m) (hnm : n + m ≤ 100000000000000) {g0 : Nat} (hB : At a ⟨g0, 0, none⟩ (bv b)) {K : Option Addr → Nat → World → Prop}
    (h1 : n + m ≤ c → ∀ w1 ob', OF w0 w1 (ob'.toList ++ R) cs → Rg ob' A c f (splice X (f + n) b) → K A c w1)
    (h2 : c < n + m → ∀ w1 A' c', OF w0 w1 (ob.toList ++ R) ((A', n + m, l ++ b) :: cs) → n + m ≤ c' → K A' c' w1) : AppE a 1 1 5 [.int .u8 0] A n c (some ⟨g0, 0, none⟩) m K := by
  have hby := q.by h.own hn hl hX
  refine ⟨bv b, by rw [bv_len]; omega, bv_one _, fun _ => ⟨_, rfl, hB⟩, fun hfit => ?_, fun hlt => ⟨bv l, by rw [bv_len]; omega, hby.at, ⟨by omega, by omega⟩, fun cap k2 k3 => ?_⟩⟩
  · rcases q with ⟨_, _, h0⟩ | ⟨g, rfl, rfl, hc⟩
    · omega
    · have e : ((some (⟨g, f, none⟩ : Addr)).map (·.add (n * 1))) = some ⟨g, f + n, none⟩ := by simp [add_blk]
      rw [e]
      refine ⟨fun _ => ⟨_, rfl, (h.own.bk 0 rfl).mayN (by rw [bv_len, bv_len]; omega)⟩, ?_⟩
      have hp := Bk.put (t := 5) (o := f + n) (bv b) a (bv X) 0 (h.own.bk 0 rfl) (by rw [bv_len, bv_len]; omega)
      rw [Nat.add_zero, bv_splice] at hp
      refine h1 hfit _ (some (g, 5, bv (splice X (f + n) b))) (h.over 0 rfl hp.2 hp.1) (Or.inr ⟨g, rfl, rfl, by rw [splice_len _ _ _ (by omega)]; exact hc⟩)
  · have e : ((bv l).toArray ++ (bv b).toArray ++ Builtin.zeroCells #[.int .u8 0] (cap - (n + m))) = (bv (l ++ b ++ List.replicate (cap - (n + m)) 0)).toArray := by
      rw [zero_bytes]
      simp [bv]
    have e2 : a.drew.alloc (.cells ((bv l).toArray ++ (bv b).toArray ++ Builtin.zeroCells [Value.int .u8 0].toArray (cap - (n + m))) 5) = a.drew.alloc (.cells (bv (l ++ b ++ List.replicate (cap - (n + m)) 0)).toArray 5) := congrArg (fun x => a.drew.alloc (.cells x 5)) e
    rw [e2]
    have H := (h.call (Bel.refl a).drew).new 5 (bv (l ++ b ++ List.replicate (cap - (n + m)) 0))
    have hlb : (l ++ b).length = n + m := by rw [List.length_append]; omega
    have hby2 : By (a.drew.alloc (.cells (bv (l ++ b ++ List.replicate (cap - (n + m)) 0)).toArray 5)) (some ⟨a.drew.heap.size, 0, none⟩) (n + m) (l ++ b) := bk_sub (H.own.bk 0 rfl) hlb fun j hj => by
      rw [Nat.zero_add, List.getElem?_append_left (by rw [hlb]; exact hj)]
    refine h2 (by omega) _ _ _ (H.ice (E := [(some ⟨_, 0, none⟩, n + m, l ++ b)]) fun x hx => ?_) (by omega)
    rw [List.mem_singleton.1 hx]
    exact ⟨hby2, fun _ => ⟨_, rfl⟩⟩
end
/-! ### growing lists, several at once -/
section
variable {w0 a : World} {R : List Blk} {cs : List Lst} {t : TypeId} {bytes : Nat} {o : Option Blk} {A : Option Addr} {n c : Nat} {vs : List Value}
theorem rv_appm {z : Value} (h : OF w0 a (o.toList ++ R) cs) (q : RV t 1 o A n c vs) {m : Nat} {v : List Value} (hv : v.length = m) (h0 : 0 < m) (h1 : v.all one1 = true) {g0 : Nat} (hB : At a ⟨g0, 0, .none⟩ v)
    (hm : (n + m) * bytes ≤ 140737488355328) (hn : n + m ≤ 9223372036854775807) {K : Option Addr → Nat → World → Prop}
    (hK : ∀ (o' : Option Blk) A' c' (wb : World), OF w0 wb (o'.toList ++ R) cs → RV t 1 o' A' (n + m) c' (vs ++ v) → K A' c' wb) : AppE a 1 bytes t [z] A n c (some ⟨g0, 0, .none⟩) m K := by
  have ln := q.1
  rw [Nat.mul_one] at ln
  refine ⟨v, by rw [hv, Nat.mul_one], h1, fun _ => ⟨_, rfl, hB⟩, fun hfit => ?_, fun hlt => ⟨vs, by rw [ln, Nat.mul_one], fun hp => ?_, ⟨hm, hn⟩, fun cap h2 h3 => ?_⟩⟩
  · rcases q.2 with ⟨rfl, rfl, rfl, rfl⟩ | ⟨b, pad, rfl, rfl, hc⟩
    · omega
    · have e : ((some (⟨b, 0, .none⟩ : Addr)).map (·.add (n * 1))) = some ⟨b, n, .none⟩ := by simp [add_blk]
      rw [e]
      rw [Nat.mul_one] at hc
      have hp0 : n + v.length ≤ (vs ++ pad).length := by rw [List.length_append]; omega
      refine ⟨fun _ => ⟨_, rfl, (h.own.bk 0 rfl).mayN hp0⟩, ?_⟩
      have hp := Bk.put (t := t) (o := n) v a (vs ++ pad) 0 (h.own.bk 0 rfl) (by rw [Nat.add_zero]; exact hp0)
      rw [Nat.add_zero, splice_at _ _ _ ln] at hp
      refine hK (some (b, t, (vs ++ v) ++ pad.drop v.length)) _ _ _ ?_ ⟨by rw [List.length_append]; omega, Or.inr ⟨b, pad.drop v.length, rfl, rfl, ?_⟩⟩
      · have := h.over 0 rfl hp.2 hp.1
        rw [List.append_assoc]
        exact this
      · rw [List.length_append] at hp0
        rw [List.length_append, List.length_drop]
        omega
  · rcases q.2 with ⟨rfl, rfl, rfl, rfl⟩ | ⟨b, pad, rfl, rfl, hc⟩
    · simp at hp
    · refine ⟨_, rfl, fun j u hu => (h.own.bk 0 rfl).at j u ?_⟩
      rw [List.getElem?_append_left (List.getElem?_eq_some_iff.1 hu).1]
      exact hu
  · have hM : OF w0 a R cs := by
      rcases q.2 with ⟨rfl, _⟩ | ⟨b, pad, rfl, _⟩
      · exact h
      · exact h.tail
    obtain ⟨zl, ez, hzl⟩ := zero_rows [z].toArray (cap - (n + m))
    rw [ez, show (vs.toArray ++ v.toArray ++ zl.toArray) = ((vs ++ v) ++ zl).toArray by simp]
    refine hK (some (a.heap.size, t, (vs ++ v) ++ zl)) _ _ _ ((hM.call (Bel.refl a).drew).new t _) ⟨by rw [List.length_append]; omega, Or.inr ⟨_, zl, rfl, rfl, ?_⟩⟩
    have e3 : [z].toArray.size = 1 := rfl
    rw [List.length_append, hzl, e3]
    omega
end
/-! ### the book -/
structure Ent where
  A : Option Addr
  n : Nat
  c : Nat
  m : Int
abbrev Ent.v (e : Ent) : Value := .slice e.A e.n e.c
abbrev Ent.k (e : Ent) : Value := .int .i64 e.m
abbrev Ent.l (e : Ent) : Lst := (e.A, e.n, pt e.m e.n)
abbrev bkv (AL : Option Addr) (nL cL : Nat) (AM : Option Addr) (nM cM : Nat) (z : Int) : List Value := [.slice AL nL cL, .slice AM nM cM, .int .i64 z]
/-- What keep leaves. -/
def RetK (w0 : World) (g : Nat) (R : List Blk) (cs : List Lst) (es : List Ent) (z : Int) (A : Option Addr) (n c f : Nat) (X : List Int) (e : Ending) (w' : World) : Prop :=
  e = .returned (.tuple #[]) ∧ ∃ (AL : Option Addr) (nL cL : Nat) (AM : Option Addr) (nM cM : Nat) (oL oM ob : Option Blk) (es4 : List Ent) (X' : List Int) (cs' : List Lst) (k : Nat) (m : Int),
    OF w0 w' ((g, 29, bkv AL nL cL AM nM cM (z + n + 400)) :: (oL.toList ++ (oM.toList ++ (ob.toList ++ R)))) cs' ∧ RV 30 1 oL AL nL cL ((es ++ es4).map Ent.v) ∧ RV 3 1 oM AM nM cM ((es ++ es4).map Ent.k) ∧ (es ++ es4).length = nL ∧ nM = nL ∧
    Rg ob A c f X' ∧ Out f c X X' ∧ Pt m f k X' ∧ k ≤ c ∧ cs ⊆ cs' ∧ (∀ x ∈ es4, x.n ≤ n + 70002 ∧ (x.l ∈ cs' ∨ (x.A = A ∧ x.n ≤ k ∧ x.m = m))) ∧ (es4 = [] ∨ (es4.length = 4 ∧ z + n + 400 ≤ 4000000))
section
variable {w0 w : World} {g : Nat} {R : List Blk} {cs : List Lst} {es : List Ent} {z : Int} {A : Option Addr} {n c f : Nat} {X : List Int} {AL : Option Addr} {nL cL : Nat} {AM : Option Addr} {nM cM : Nat} {oL oM : Option Blk} {m : Int}
theorem mv1 {α : Type} (b : α) (P Q : List α) : (b :: (P ++ Q)).Perm (P ++ (b :: Q)) := List.perm_middle.symm
theorem mv3 {α : Type} (b : α) (L M O R : List α) : (b :: (L ++ (M ++ (O ++ R)))).Perm (O ++ (b :: (L ++ (M ++ R)))) := by
  refine List.Perm.trans ?_ List.perm_middle.symm
  refine List.Perm.cons _ ?_
  refine List.Perm.trans ((List.perm_append_comm_assoc M O R).append_left L) ?_
  exact List.perm_append_comm_assoc L O _
theorem mv2 {α : Type} (b : α) (L M O R : List α) : (b :: (L ++ (M ++ (O ++ R)))).Perm (M ++ (b :: (L ++ (O ++ R)))) := by
  refine List.Perm.trans ?_ List.perm_middle.symm
  exact List.Perm.cons _ (List.perm_append_comm_assoc L M _)
theorem keep_l2 (qL : RV 30 1 oL AL nL cL (es.map Ent.v)) (qM : RV 3 1 oM AM nM cM (es.map Ent.k)) (hes : es.length = nL) (hnM : nM = nL) (hL : nL ≤ 100000) (hn : n ≤ c) (hc : c ≤ 9223372036854775807) (hn2 : n ≤ 10000000000000) {A1 : Option Addr} {c1 : Nat} {A2 : Option Addr} {c2 : Nat} {z0 : Int} (hz : z0 + n + 400 ≤ 4000000) :
    ∀ (q i : Nat) (w : World) (ob : Option Blk) (X' : List Int) (k : Nat) (cs' : List Lst), c - n - i < q → n + i ≤ c → i ≤ 70000 → OF w0 w ((g, 29, bkv AL nL cL AM nM cM (z0 + n + 400)) :: (oL.toList ++ (oM.toList ++ (ob.toList ++ R)))) cs' → Rg ob A c f X' → Out f c X X' → Pt m f k X' → n + i ≤ k → k ≤ c → cs ⊆ cs' →
    (Ent.l ⟨A1, n + 1, c1, m⟩ ∈ cs' ∨ (A1 = A ∧ n + 1 ≤ k)) → (Ent.l ⟨A2, n + 2, c2, m⟩ ∈ cs' ∨ (A2 = A ∧ n + 2 ≤ k)) → weftlaw3_Book_keep.L2 q (some ⟨g, 0, none⟩) A n c m (n : Int) A1 (n + 1) c1 A2 (n + 2) c2 A (n + i) c (i : Int) w (RetK w0 g R cs es z0 A n c f X) := by
  intro q
  induction q with
  | zero => intro i w ob X' k cs' h; omega
  | succ q ih =>
    intro i w ob X' k cs' hq hi hi7 H rg out hp hk hkc hcs e1 e2
    unfold weftlaw3_Book_keep.L2; intros
    rw [weftlaw3_Book_keep.l2_eq]
    refine let_as ((c : Int) - n) (w64 (by omega) (by omega)) ?_
    refine call_of (far_c _) ?_
    rintro e w1 ⟨rfl, rfl⟩
    refine ⟨_, rfl, ?_⟩
    refine ifD (fun h1 => ?_) (fun h1 => ?_)
    · have hlt : n + i < c := by split at h1 <;> omega
      have hi8 : i < 70000 := by split at h1 <;> omega
      refine let_as ((n + i : Nat) : Int) (by rw [w64 (by omega) (by omega)]; omega) ?_
      refine call_of (pat_c m (by omega)) ?_
      rintro e w1 ⟨rfl, rfl⟩
      refine ⟨_, rfl, ?_⟩
      refine let_as w1.heap.size rfl (let_as (w1.alloc (.cells (bv [patv m ((n + i : Nat) : Int)]).toArray 5)) rfl ?_)
      have len : f + c ≤ X'.length := by
        rcases rg with ⟨_, _, h0⟩ | ⟨_, _, _, h0⟩
        · omega
        · exact h0
      have H2 := (H.call ((Bel.refl w1).alloc (.cells (bv [patv m ((n + i : Nat) : Int)]).toArray 5))).perm (mv3 _ _ _ _ _)
      refine rg_app (m := 1) (l := pt m (n + i)) (b := [patv m ((n + i : Nat) : Int)]) H2 rg hi (pt_len _ _) (fun j hj => by rw [hp j (by omega), pt_get m hj]) rfl (by omega) (by omega) (Bk.new w1 _ _).at (fun _ w2 ob2 H3 rg2 => ?_) (fun h => by omega)
      refine let_as ((i + 1 : Nat) : Int) (by rw [w64 (by omega) (by omega)]; omega) ?_
      have hp2 := hp.splice (i := n + i) (b := [patv m ((n + i : Nat) : Int)]) hk (by simp; omega) (fun j hj => by
        obtain rfl : j = 0 := by simpa using hj
        rfl)
      have kk : weftlaw3_Book_keep.L2 q (some ⟨g, 0, none⟩) A n c m (n : Int) A1 (n + 1) c1 A2 (n + 2) c2 A (n + i + 1) c ((i + 1 : Nat) : Int) w2 (RetK w0 g R cs es z0 A n c f X) := ih (i + 1) w2 ob2 (splice X' (f + (n + i)) [patv m ((n + i : Nat) : Int)]) (max k (n + i + 1)) cs' (by omega) (by omega) (by omega) (H3.perm (mv3 _ _ _ _ _).symm) rg2 (out.splice (by omega) (by simp; omega) len) hp2 (by omega) (by omega) hcs
        (e1.imp id fun h => ⟨h.1, by omega⟩) (e2.imp id fun h => ⟨h.1, by omega⟩)
      with_reducible apply kk
    · refine ⟨_, rfl, AL, nL, cL, H.own.cell 0 0 rfl rfl, ?_⟩
      refine let_as w1.heap.size rfl (let_as (w1.alloc (.cells ([.slice A n c, .slice A1 (n + 1) c1, .slice A2 (n + 2) c2, .slice A (n + i) c] : List Value).toArray 30)) rfl ?_)
      refine rv_appm (m := 4) (z := .slice none 0 0) ((H.call ((Bel.refl w1).alloc _)).perm (mv1 _ _ _)) qL (v := [.slice A n c, .slice A1 (n + 1) c1, .slice A2 (n + 2) c2, .slice A (n + i) c]) rfl (by omega) rfl (Bk.new w1 _ _).at (by omega) (by omega) fun oL' AL' cL' w2 H2 qL' => ?_
      replace H2 := H2.perm (mv1 _ _ _).symm
      refine ⟨_, rfl, ?_⟩
      refine of_set 0 H2 rfl (Nat.lt_of_lt_of_le (by decide : 0 < 3) (Nat.le_refl 3)) fun w3 H3 => ?_
      replace H3 : OF w0 w3 ((g, 29, bkv AL' (nL + 4) cL' AM nM cM (z0 + n + 400)) :: (oL'.toList ++ (oM.toList ++ (ob.toList ++ R)))) cs' := H3
      refine ⟨_, rfl, AM, nM, cM, H3.own.cell 0 1 rfl rfl, ?_⟩
      refine let_as w3.heap.size rfl (let_as (w3.alloc (.cells ([.int .i64 m, .int .i64 m, .int .i64 m, .int .i64 m] : List Value).toArray 3)) rfl ?_)
      refine rv_appm (m := 4) (z := .int .i64 0) ((H3.call ((Bel.refl w3).alloc _)).perm (mv2 _ _ _ _ _)) qM (v := [.int .i64 m, .int .i64 m, .int .i64 m, .int .i64 m]) rfl (by omega) rfl (Bk.new w3 _ _).at (by omega) (by omega) fun oM' AM' cM' w4 H4 qM' => ?_
      replace H4 := H4.perm (mv2 _ _ _ _ _).symm
      refine ⟨_, rfl, ?_⟩
      refine of_set 0 H4 rfl (Nat.lt_of_lt_of_le (by decide : 1 < 3) (Nat.le_refl 3)) fun w5 H5 => ?_
      refine ⟨rfl, AL', nL + 4, cL', AM', nM + 4, cM', oL', oM', ob, [⟨A, n, c, m⟩, ⟨A1, n + 1, c1, m⟩, ⟨A2, n + 2, c2, m⟩, ⟨A, n + i, c, m⟩], X', cs', k, m, H5, ?_, ?_, ?_, ?_, rg, out, hp, hkc, hcs, ?_, Or.inr ⟨rfl, hz⟩⟩
      · rw [List.map_append]; exact qL'
      · rw [List.map_append]; exact qM'
      · rw [List.length_append, hes]; rfl
      · rw [hnM]
      · intro x hx
        simp only [List.mem_cons, List.not_mem_nil, or_false] at hx
        rcases hx with rfl | rfl | rfl | rfl
        · exact ⟨by show n ≤ n + 70002; omega, Or.inr ⟨rfl, by show n ≤ k; omega, rfl⟩⟩
        · exact ⟨by show n + 1 ≤ n + 70002; omega, e1.imp id fun h => ⟨h.1, h.2, rfl⟩⟩
        · exact ⟨by show n + 2 ≤ n + 70002; omega, e2.imp id fun h => ⟨h.1, h.2, rfl⟩⟩
        · exact ⟨by show n + i ≤ n + 70002; omega, Or.inr ⟨rfl, hk, rfl⟩⟩
/-- One byte more. -/
theorem g1_app {P : List Blk} {ob : Option Blk} {cs' : List Lst} {X' : List Int} {k : Nat} (H : OF w0 w (ob.toList ++ P) cs') (rg : Rg ob A c f X') (out : Out f c X X') (hp : Pt m f k X') (hk : n ≤ k) (hkc : k ≤ c) (hc : c ≤ 9223372036854775807) (hn2 : n ≤ 10000000000000) {K : Int → Nat → Option Addr → Nat → World → Prop}
    (hK : ∀ (gg : Nat) (ob2 : Option Blk) (X2 : List Int) (k2 : Nat) (cs2 : List Lst) (A1 : Option Addr) (c1 : Nat) (w' : World), OF w0 w' (ob2.toList ++ P) cs2 → Rg ob2 A c f X2 → Out f c X X2 → Pt m f k2 X2 → k ≤ k2 → k2 ≤ c → cs' ⊆ cs2 → (Ent.l ⟨A1, n + 1, c1, m⟩ ∈ cs2 ∨ (A1 = A ∧ n + 1 ≤ k2)) → K (patv m (n : Int)) gg A1 c1 w') :
    Calls Try.prog 41 #[.int .i64 m, .int .i64 (n : Int)] w (fun e w1 => ∃ x : Int, e = .returned (.int .u8 x) ∧ Let w1.heap.size fun gg => Let (w1.alloc (.cells #[.int .u8 x] 5)) fun w2 => AppE w2 1 1 5 [.int .u8 0] A n c (some ⟨gg, 0, none⟩) 1 (K x gg)) := by
  refine call_of (pat_c m (by omega)) ?_
  rintro e w1 ⟨rfl, rfl⟩
  refine ⟨_, rfl, ?_⟩
  refine let_as w1.heap.size rfl (let_as (w1.alloc (.cells (bv [patv m (n : Int)]).toArray 5)) rfl ?_)
  have len : f + c ≤ X'.length ∨ c = 0 := by
    rcases rg with ⟨_, _, h0⟩ | ⟨_, _, _, h0⟩
    · exact Or.inr h0
    · exact Or.inl h0
  refine rg_app (m := 1) (l := pt m n) (b := [patv m (n : Int)]) (H.call ((Bel.refl w1).alloc (.cells (bv [patv m (n : Int)]).toArray 5))) rg (by omega) (pt_len _ _) (fun j hj => by rw [hp j (by omega), pt_get m hj]) rfl (by omega) (by omega) (Bk.new w1 _ _).at (fun hfit w2 ob2 H3 rg2 => ?_) (fun hlt w2 A' c' H3 hc' => ?_)
  · have len' : f + c ≤ X'.length := by omega
    refine hK _ ob2 _ (max k (n + 1)) cs' A c w2 H3 rg2 (out.splice (by omega) (by simp; omega) len') (hp.splice (i := n) (b := [patv m (n : Int)]) hk (by simp; omega) (fun j hj => by
        obtain rfl : j = 0 := by simpa using hj
        rfl)) (by omega) (by omega) (fun x hx => hx) (Or.inr ⟨rfl, by omega⟩)
  · refine hK _ ob _ k _ A' c' w2 H3 rg out hp (by omega) hkc (List.subset_cons_self _ _) (Or.inl ?_)
    show (A', n + 1, pt m (n + 1)) ∈ _
    rw [pt_succ]
    exact List.mem_cons_self
/-- Two bytes more. -/
theorem g2_app {P : List Blk} {ob : Option Blk} {cs' : List Lst} {X' : List Int} {k : Nat} (H : OF w0 w (ob.toList ++ P) cs') (rg : Rg ob A c f X') (out : Out f c X X') (hp : Pt m f k X') (hk : n ≤ k) (hkc : k ≤ c) (hc : c ≤ 9223372036854775807) (hn2 : n ≤ 10000000000000) {K : Int → Int → Int → Nat → Option Addr → Nat → World → Prop}
    (hK : ∀ (gg : Nat) (ob2 : Option Blk) (X2 : List Int) (k2 : Nat) (cs2 : List Lst) (A1 : Option Addr) (c1 : Nat) (w' : World), OF w0 w' (ob2.toList ++ P) cs2 → Rg ob2 A c f X2 → Out f c X X2 → Pt m f k2 X2 → k ≤ k2 → k2 ≤ c → cs' ⊆ cs2 → (Ent.l ⟨A1, n + 2, c1, m⟩ ∈ cs2 ∨ (A1 = A ∧ n + 2 ≤ k2)) → K (patv m (n : Int)) ((n + 1 : Nat) : Int) (patv m ((n + 1 : Nat) : Int)) gg A1 c1 w') :
    Calls Try.prog 41 #[.int .i64 m, .int .i64 (n : Int)] w (fun e w1 => ∃ x : Int, e = .returned (.int .u8 x) ∧ Let (IntKind.i64.wrap ((n : Int) + 1)) fun y => Calls Try.prog 41 #[.int .i64 m, .int .i64 y] w1 (fun e w1 => ∃ x' : Int, e = .returned (.int .u8 x') ∧
      Let w1.heap.size fun gg => Let (w1.alloc (.cells #[.int .u8 x, .int .u8 x'] 5)) fun w2 => AppE w2 1 1 5 [.int .u8 0] A n c (some ⟨gg, 0, none⟩) 2 (K x y x' gg))) := by
  refine call_of (pat_c m (by omega)) ?_
  rintro e w1 ⟨rfl, rfl⟩
  refine ⟨_, rfl, ?_⟩
  refine let_as ((n + 1 : Nat) : Int) (by rw [w64 (by omega) (by omega)]; omega) ?_
  refine call_of (pat_c m (by omega)) ?_
  rintro e w1 ⟨rfl, rfl⟩
  refine ⟨_, rfl, ?_⟩
  refine let_as w1.heap.size rfl (let_as (w1.alloc (.cells (bv [patv m (n : Int), patv m ((n + 1 : Nat) : Int)]).toArray 5)) rfl ?_)
  have len : f + c ≤ X'.length ∨ c = 0 := by
    rcases rg with ⟨_, _, h0⟩ | ⟨_, _, _, h0⟩
    · exact Or.inr h0
    · exact Or.inl h0
  refine rg_app (m := 2) (l := pt m n) (b := [patv m (n : Int), patv m ((n + 1 : Nat) : Int)]) (H.call ((Bel.refl w1).alloc (.cells (bv [patv m (n : Int), patv m ((n + 1 : Nat) : Int)]).toArray 5))) rg (by omega) (pt_len _ _) (fun j hj => by rw [hp j (by omega), pt_get m hj]) rfl (by omega) (by omega) (Bk.new w1 _ _).at (fun hfit w2 ob2 H3 rg2 => ?_) (fun hlt w2 A' c' H3 hc' => ?_)
  · have len' : f + c ≤ X'.length := by omega
    refine hK _ ob2 _ (max k (n + 2)) cs' A c w2 H3 rg2 (out.splice (by omega) (by simp; omega) len') (hp.splice (i := n) (b := [patv m (n : Int), patv m ((n + 1 : Nat) : Int)]) hk (by simp; omega) (fun j hj => by
        have hj2 : j < 2 := hj
        rcases (by omega : j = 0 ∨ j = 1) with rfl | rfl <;> rfl)) (by omega) (by omega) (fun x hx => hx) (Or.inr ⟨rfl, by omega⟩)
  · refine hK _ ob _ k _ A' c' w2 H3 rg out hp (by omega) hkc (List.subset_cons_self _ _) (Or.inl ?_)
    show (A', n + 2, pt m (n + 2)) ∈ _
    rw [pt_succ, pt_succ, List.append_assoc]
    exact List.mem_cons_self
theorem keep_l1 (qL : RV 30 1 oL AL nL cL (es.map Ent.v)) (qM : RV 3 1 oM AM nM cM (es.map Ent.k)) (hes : es.length = nL) (hnM : nM = nL) (hL : nL ≤ 100000) (hn : n ≤ c) (hc : c ≤ 9223372036854775807) (hn2 : n ≤ 10000000000000) (hz0 : 0 ≤ z) (hz : z ≤ 1000000000000000000) :
    ∀ (q i : Nat) (w : World) (ob : Option Blk) (X' : List Int), n - i < q → i ≤ n → OF w0 w ((g, 29, bkv AL nL cL AM nM cM z) :: (oL.toList ++ (oM.toList ++ (ob.toList ++ R)))) cs → Rg ob A c f X' → Out f c X X' → Pt m f i X' →
    weftlaw3_Book_keep.L1 q (some ⟨g, 0, none⟩) A n c m (n : Int) (i : Int) w (RetK w0 g R cs es z A n c f X) := by
  intro q
  induction q with
  | zero => intro i w ob X' h; omega
  | succ q ih =>
    intro i w ob X' hq hi H rg out hp
    unfold weftlaw3_Book_keep.L1; intros
    rw [weftlaw3_Book_keep.l1_eq]
    refine ifD (fun h1 => ?_) (fun h1 => ?_)
    · refine call_of (pat_c m (by omega)) ?_
      rintro e w1 ⟨rfl, rfl⟩
      refine ⟨_, rfl, ?_⟩
      have len : f + c ≤ X'.length := by
        rcases rg with ⟨_, _, h0⟩ | ⟨_, _, _, h0⟩
        · omega
        · exact h0
      refine rg_setI (n := n) (H.perm (mv3 _ _ _ _ _)) rg (by omega) hn fun bb w2 ob2 H2 rg2 => ?_
      replace H2 := H2.perm (mv3 _ _ _ _ _).symm
      refine let_as ((i + 1 : Nat) : Int) (by rw [w64 (by omega) (by omega)]; omega) ?_
      have kk := ih (i + 1) w2 ob2 (X'.set (f + i) (patv m (i : Int))) (by omega) (by omega) H2 rg2 ⟨by rw [List.length_set]; exact out.1, fun j hj => by rw [List.getElem?_set_ne (by omega)]; exact out.2 j hj⟩ (fun j hj => by
        by_cases e : j = i
        · subst e
          rw [List.getElem?_set_self (by omega)]
        · rw [List.getElem?_set_ne (by omega)]
          exact hp j (by omega))
      with_reducible apply kk
    · have hin : i = n := by omega
      subst hin
      refine ⟨_, rfl, z, H.own.cell 0 2 rfl rfl, ?_⟩
      refine let_as (z + i) (w64 (by omega) (by omega)) ?_
      refine let_as (z + i + 400) (w64 (by omega) (by omega)) ?_
      refine ⟨_, rfl, ?_⟩
      refine of_set 0 H rfl (Nat.lt_of_lt_of_le (by decide : 2 < 3) (Nat.le_refl 3)) fun w1 H1 => ?_
      replace H1 : OF w0 w1 ((g, 29, bkv AL nL cL AM nM cM (z + i + 400)) :: (oL.toList ++ (oM.toList ++ (ob.toList ++ R)))) cs := H1
      refine ⟨_, rfl, _, H1.own.cell 0 2 rfl rfl, ?_⟩
      refine ifD (fun h2 => ?_) (fun h2 => ?_)
      · exact ⟨rfl, AL, nL, cL, AM, nM, cM, oL, oM, ob, [], X', cs, i, m, H1, by rw [List.append_nil]; exact qL, by rw [List.append_nil]; exact qM, by rw [List.append_nil]; exact hes, hnM, rg, out, hp, hn, (fun x hx => hx), (fun x hx => by cases hx), Or.inl rfl⟩
      · refine g1_app (H1.perm (mv3 _ _ _ _ _)) rg out hp (Nat.le_refl _) hn hc hn2 fun gg ob2 X2 k2 cs2 A1 c1 w2 H2 rg2 out2 hp2 hk2 hkc2 hs2 e1 => ?_
        refine g2_app H2 rg2 out2 hp2 hk2 hkc2 hc hn2 fun gg2 ob3 X3 k3 cs3 A2 c2 w3 H3 rg3 out3 hp3 hk3 hkc3 hs3 e2 => ?_
        refine ⟨c - i + 1, ?_⟩
        have kk : weftlaw3_Book_keep.L2 (c - i + 1) (some ⟨g, 0, none⟩) A i c m (i : Int) A1 (i + 1) c1 A2 (i + 2) c2 A i c 0 w3 (RetK w0 g R cs es z A i c f X) :=
          keep_l2 qL qM hes hnM hL hn hc hn2 (by omega) (c - i + 1) 0 w3 ob3 X3 k3 cs3 (by omega) (by omega) (by omega) (H3.perm (mv3 _ _ _ _ _).symm) rg3 out3 hp3 (by omega) hkc3 (fun x hx => hs3 (hs2 hx)) (e1.imp (fun h => hs3 h) fun h => ⟨h.1, by omega⟩) e2
        with_reducible apply kk
theorem keep_c {ob : Option Blk} (qL : RV 30 1 oL AL nL cL (es.map Ent.v)) (qM : RV 3 1 oM AM nM cM (es.map Ent.k)) (hes : es.length = nL) (hnM : nM = nL) (hL : nL ≤ 100000) (hn : n ≤ c) (hc : c ≤ 9223372036854775807) (hn2 : n ≤ 10000000000000) (hz0 : 0 ≤ z) (hz : z ≤ 1000000000000000000)
    (H : OF w0 w ((g, 29, bkv AL nL cL AM nM cM z) :: (oL.toList ++ (oM.toList ++ (ob.toList ++ R)))) cs) (rg : Rg ob A c f X) : Calls Try.prog 10 #[.pointer (some ⟨g, 0, none⟩), .slice A n c] w (RetK w0 g R cs es z A n c f X) := by
  refine weftlaw3_Book_keep.run ?_
  unfold weftlaw3_Book_keep.s
  refine ⟨_, rfl, AL, nL, cL, H.own.cell 0 0 rfl rfl, ?_⟩
  refine let_as ((nL : Int) / 4) (by rw [td (by omega), w64 (by omega) (by omega)]) ?_
  refine let_as (1 + (nL : Int) / 4) (w64 (by omega) (by omega)) ?_
  refine ⟨n + 1, ?_⟩
  have kk : weftlaw3_Book_keep.L1 (n + 1) (some ⟨g, 0, none⟩) A n c (1 + (nL : Int) / 4) (n : Int) 0 w (RetK w0 g R cs es z A n c f X) := keep_l1 qL qM hes hnM hL hn hc hn2 hz0 hz (n + 1) 0 w ob X (by omega) (by omega) H rg (Out.refl _ _ _) (fun j hj => absurd hj (Nat.not_lt_zero j))
  with_reducible apply kk
end
end Go.Proofs.YtchdcdmdbjkihaaS
