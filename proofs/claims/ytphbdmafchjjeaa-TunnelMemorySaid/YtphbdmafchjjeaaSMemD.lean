/- Package weftlaw7: untouched: every call twice over, all answers kept; untouched is true.
   Conditions: the frame may be sealed; the datagram is not too long. -/
import Derived.Test.YtphbdmafchjjeaaSMemC
namespace Go.Proofs.YtphbdmafchjjeaaS
open Go Go.RowKit Go.Proofs Go.Proofs.YtphbdmafchjjeaaX
set_option maxRecDepth 100000
set_option linter.unusedVariables false
set_option linter.unusedSectionVars false
set_option linter.unusedSimpArgs false

theorem perm6 {α : Type} (a b c d e f g h i j k : α) (O M R : List α) : (a :: b :: c :: d :: e :: f :: g :: h :: i :: j :: k :: (O ++ (M ++ R))).Perm (a :: d :: g :: h :: (O ++ ((M ++ [j, i, f, e, c, b]) ++ (k :: R)))) := by
  classical
  rw [List.perm_iff_count]
  intro x
  simp only [List.count_cons, List.count_append, List.count_nil]
  omega
/-- The six answers of one round. -/
def sixL (o : Ot) (f : Fr) (src sp dp : Int) (body : List Int) : List (List Int) := [sOut o { f with body := body }, body, ({ f with body := body } : Fr).bytes, body, uBytes src src sp dp body true, body]
def Pr (C : List (List Int)) : Prop := ∀ (j : Nat) (a b : List Int), C[j]? = some a → C[j + 6]? = some b → j / 6 % 2 = 0 → a = b
theorem Pr.two {C c6 : List (List Int)} {i : Nat} (h : Pr C) (hC : C.length = 12 * i) (h6 : c6.length = 6) : Pr (C ++ (c6 ++ c6)) := fun j a b ha hb hj => by
  have hb2 := (List.getElem?_eq_some_iff.1 hb).1
  rw [List.length_append, List.length_append] at hb2
  by_cases h1 : j + 6 < 12 * i
  · rw [List.getElem?_append_left (by omega)] at ha hb
    exact h j a b ha hb hj
  · by_cases h2 : j < 12 * i
    · omega
    · rw [List.getElem?_append_right (by omega), hC] at ha hb
      rw [List.getElem?_append_left (by omega)] at ha
      rw [List.getElem?_append_right (by omega)] at hb
      rw [show j + 6 - 12 * i - c6.length = j - 12 * i by omega, ha] at hb
      injection hb
/-- What has been answered: the lists, and the blocks in which they lie; R: what else is one's own. -/
def Kept (w0 w : World) (R : List Blk) (oL : Option Blk) (AL : Option Addr) (N cL : Nat) (C : List (List Int)) : Prop :=
  ∃ bs : List Bl, Own w0 w (oL.toList ++ (bs.map blk ++ R)) ∧ RV 29 1 oL AL N cL (bs.map blv) ∧ bs.map Prod.snd = C ∧ C.length = N ∧ ∀ p ∈ bs, p.2.length ≤ 1000000
section
variable {w0 : World} {o : Ot} (ho : o.Fine) {f : Fr} (hf : f.Fine) {src sp dp : Int} (hs : 0 ≤ src ∧ src ≤ 4294967295) (hsp : 0 ≤ sp ∧ sp ≤ 65535) (hdp : 0 ≤ dp ∧ dp ≤ 65535)
include ho hf hs hsp hdp
/-- One round's body: its frame and datagram are fine. -/
structure Rnd (w0 : World) (o : Ot) (f : Fr) (B : Option Addr) (n c : Nat) (body : List Int) : Prop where
  y : By w0 B n body
  bb : Bytes body
  nc : n ≤ c
  lb : body.length ≤ 65485
  z : sErr o { f with body := body } = 0
omit ho hf hs hsp hdp in
theorem rnd_err {B : Option Addr} {n c : Nat} {body : List Int} (r : Rnd w0 o f B n c body) : ({ f with body := body } : Fr).err = 0 := (sErr_zero r.z).2.2
theorem unt_j4 {R : List Blk} {oL : Option Blk} {AL : Option Addr} {N cL : Nat} {C : List (List Int)} {B : Option Addr} {n c : Nat} {body : List Int} (r : Rnd w0 o f B n c body)
    {g4 g12 ga gs gb gr gc gd gu ge gf : Nat} {y10 : Int} {k m0 m1 : Nat} {w : World} (hk : k ≤ 10) {bs : List Bl} (hC : bs.map Prod.snd = C) (hN : C.length = N) (hN2 : N ≤ 1000000) (hn : ∀ p ∈ bs, p.2.length ≤ 1000000)
    (qL : RV 29 1 oL AL N cL (bs.map blv))
    (H : Own w0 w ((gf, 33, dv sp dp (some ⟨ge, 0, none⟩) body.length body.length) :: (ge, 5, bv body) :: (gu, 5, bv (uBytes src src sp dp body true)) :: (gd, 31, fv { f with body := body } (some ⟨gc, 0, none⟩) body.length body.length) ::
      (gc, 5, bv body) :: (gr, 5, bv ({ f with body := body } : Fr).bytes) :: (gb, 31, fv { f with body := body } (some ⟨ga, 0, none⟩) body.length body.length) :: (g4, 26, ov o) :: (ga, 5, bv body) :: (gs, 5, bv (sOut o { f with body := body })) ::
      (g12, 31, fv { f with body := body } B n c) :: (oL.toList ++ (bs.map blk ++ R))))
    {yg4 yg5 yg7 : Nat}
    (rest : ∀ w' oL' AL' cL', Kept w0 w' ((g12, 31, fv { f with body := body } B n c) :: R) oL' AL' (N + 6) cL' (C ++ sixL o f src sp dp body) → weftlaw7_untouched.L3 m0 m1 src yg4 yg5 yg7 AL' (N + 6) cL' y10 B n c g12 ((k + 1 : Nat) : Int) w' (Yes w0)) :
    weftlaw7_untouched.J4 m0 m1 src yg4 yg5 yg7 AL N cL y10 B n c g12 (k : Int) (some ⟨gs, 0, none⟩) (sOut o { f with body := body }).length (sOut o { f with body := body }).length gb (some ⟨gr, 0, none⟩) ({ f with body := body } : Fr).bytes.length ({ f with body := body } : Fr).bytes.length gd (some ⟨gu, 0, none⟩) (uBytes src src sp dp body true).length (uBytes src src sp dp body true).length gf w (Yes w0) := by
  unfold weftlaw7_untouched.J4; intros
  rw [weftlaw7_untouched.j4_eq]
  refine ⟨_, _, _, H.cell 6 13 rfl rfl, _, _, _, H.cell 3 13 rfl rfl, _, _, _, H.cell 0 2 rfl rfl, ?_⟩
  have b6 : List.map blv [(gs, sOut o { f with body := body }), (ga, body), (gr, ({ f with body := body } : Fr).bytes), (gc, body), (gu, uBytes src src sp dp body true), (ge, body)] =
    [.slice (some ⟨gs, 0, none⟩) (sOut o { f with body := body }).length (sOut o { f with body := body }).length, .slice (some ⟨ga, 0, none⟩) body.length body.length, .slice (some ⟨gr, 0, none⟩) ({ f with body := body } : Fr).bytes.length ({ f with body := body } : Fr).bytes.length, .slice (some ⟨gc, 0, none⟩) body.length body.length, .slice (some ⟨gu, 0, none⟩) (uBytes src src sp dp body true).length (uBytes src src sp dp body true).length, .slice (some ⟨ge, 0, none⟩) body.length body.length] := rfl
  refine let_as w.heap.size rfl (let_as (w.alloc (.cells (List.map blv [(gs, sOut o { f with body := body }), (ga, body), (gr, ({ f with body := body } : Fr).bytes), (gc, body), (gu, uBytes src src sp dp body true), (ge, body)]).toArray 29)) rfl ?_)
  generalize hG : [(gs, sOut o { f with body := body }), (ga, body), (gr, ({ f with body := body } : Fr).bytes), (gc, body), (gu, uBytes src src sp dp body true), (ge, body)] = G at *
  have hG6 : G.length = 6 := by rw [← hG]; rfl
  have H1 : Own w0 w (oL.toList ++ ((bs ++ G).map blk ++ ((g12, 31, fv { f with body := body } B n c) :: R))) := by
    have H2 : Own w0 w ((gf, 33, dv sp dp (some ⟨ge, 0, none⟩) body.length body.length) :: (gd, 31, fv { f with body := body } (some ⟨gc, 0, none⟩) body.length body.length) :: (gb, 31, fv { f with body := body } (some ⟨ga, 0, none⟩) body.length body.length) :: (g4, 26, ov o) ::
        (oL.toList ++ ((bs ++ G).map blk ++ ((g12, 31, fv { f with body := body } B n c) :: R)))) := by
      rw [← hG, List.map_append]
      exact H.perm (perm6 _ _ _ _ _ _ _ _ _ _ _ _ _ _)
    exact H2.tail.tail.tail.tail
  have hone : (G.map blv).all one1 = true := by rw [← hG]; rfl
  refine rv_apps (v := G.map blv) (m := 6) (cs := []) ⟨H1.call ((Bel.refl w).alloc _), fun x hx => by cases hx⟩ qL (by rw [List.length_map]; exact hG6) (by decide) hone (Bk.new w _ _).at (by omega) (by omega) fun oL' AL' cL' wb H' qL' => ?_
  refine let_as ((k + 1 : Nat) : Int) (by rw [w64 (by omega) (by omega)]; omega) ?_
  have h1 := sOut_len (o := o) (f := { f with body := body })
  have h2 := Fr.len { f with body := body }
  have h3 : (uBytes src src sp dp body true).length = 8 + body.length := uRaw_len _ _ _ _
  have h4 := r.lb
  refine rest wb oL' AL' cL' ⟨bs ++ G, H'.own, by rw [List.map_append]; exact qL', by rw [List.map_append, hC, ← hG]; rfl, by rw [List.length_append, hN]; rfl, fun p hp => ?_⟩ ..
  rcases List.mem_append.1 hp with hp | hp
  · exact hn p hp
  · rw [← hG] at hp
    simp only [List.mem_cons, List.not_mem_nil, or_false] at hp
    have h2' : ({ f with body := body } : Fr).bytes.length = 14 + body.length := h2
    rcases hp with rfl | rfl | rfl | rfl | rfl | rfl
    · show (sOut o { f with body := body }).length ≤ _
      omega
    · show body.length ≤ _
      omega
    · show ({ f with body := body } : Fr).bytes.length ≤ _
      omega
    · show body.length ≤ _
      omega
    · show (uBytes src src sp dp body true).length ≤ _
      omega
    · show body.length ≤ _
      omega
end
end Go.Proofs.YtphbdmafchjjeaaS
