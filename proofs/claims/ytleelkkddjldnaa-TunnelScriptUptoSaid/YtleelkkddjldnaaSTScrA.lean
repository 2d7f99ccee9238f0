/- Package weftlaw7: what a script keeps; answers.
   Conditions: the lists that are kept are no longer than an answer is. -/
import Derived.Test.YtleelkkddjldnaaSList
import Derived.Test.YtleelkkddjldnaaSTLawV
import Derived.Test.YtleelkkddjldnaaSFZ
namespace Go.Proofs.YtleelkkddjldnaaS
open Go Go.RowKit Go.Proofs Go.Proofs.YtleelkkddjldnaaX
set_option maxRecDepth 100000
set_option linter.unusedVariables false
set_option linter.unusedSectionVars false
set_option linter.unusedSimpArgs false

/-- The record of the steps. -/
def stc (Al : Option Addr) (nl cl : Nat) (As : Option Addr) (ns cs : Nat) (f : Fr) (Af : Option Addr) (nf cf : Nat) (o : Ot) (AL : Option Addr) (nL cL : Nat) (AW : Option Addr) (nW cW : Nat) (total : Int) : List Value :=
  [.slice Al nl cl, .slice As ns cs, .int .u8 f.d0, .int .u8 f.d1, .int .u8 f.d2, .int .u8 f.d3, .int .u8 f.d4, .int .u8 f.d5, .int .u8 f.s0, .int .u8 f.s1, .int .u8 f.s2, .int .u8 f.s3, .int .u8 f.s4, .int .u8 f.s5, .int .u16 f.typ, .slice Af nf cf,
    .int .u32 o.src, .int .u32 o.dst, .int .u16 o.sp, .int .u16 o.dp, .int .u8 o.ttl, .int .i64 o.vni, .slice AL nL cL, .slice AW nW cW, .int .i64 total]
/-- What the steps keep: the lists as they were answered, and their copies. -/
structure Kp (vL vW : List Value) (n : Nat) (fz : List Lst) (total : Int) : Prop where
  eq : ∀ i, i < n → ∃ (B : Option Addr) (m d : Nat) (B' : Option Addr) (d' : Nat) (l : List Int), vL[i]? = some (.slice B m d) ∧ vW[i]? = some (.slice B' m d') ∧ (B, m, l) ∈ fz ∧ (B', m, l) ∈ fz ∧ m ≤ 300000
  lo : 400 * (n : Int) ≤ total
  hi : total ≤ 40000000
theorem Kp.mono {vL vW : List Value} {n : Nat} {fz fz' : List Lst} {total : Int} (h : Kp vL vW n fz total) (k : fz ⊆ fz') : Kp vL vW n fz' total :=
  ⟨fun i hi => by
    obtain ⟨B, m, d, B', d', l, e1, e2, e3, e4, e5⟩ := h.eq i hi
    exact ⟨B, m, d, B', d', l, e1, e2, k e3, k e4, e5⟩, h.lo, h.hi⟩
/-- The steps' memory: their record, the two lists of lists, and more of one's own. -/
def Gd (w0 w : World) (g : Nat) (R : List (Nat × TypeId × List Value)) (fz : List Lst) (Al : Option Addr) (nl cl : Nat) (As : Option Addr) (ns cs : Nat) (f : Fr) (Af : Option Addr) (nf cf : Nat) (o : Ot) : Prop :=
  ∃ (oL oW : Option (Nat × TypeId × List Value)) (AL : Option Addr) (n cL : Nat) (AW : Option Addr) (cW : Nat) (vL vW : List Value) (total : Int),
    OF w0 w ((g, 73, stc Al nl cl As ns cs f Af nf cf o AL n cL AW n cW total) :: (oL.toList ++ (oW.toList ++ R))) fz ∧ SV oL AL n cL vL ∧ SV oW AW n cW vW ∧ Kp vL vW n fz total
theorem answers_t {w0 w : World} {g : Nat} {R : List (Nat × TypeId × List Value)} {fz : List Lst} {Al : Option Addr} {nl cl : Nat} {As : Option Addr} {ns cs : Nat} {f : Fr} {Af : Option Addr} {nf cf : Nat} {o : Ot} (h : Gd w0 w g R fz Al nl cl As ns cs f Af nf cf o)
    {A : Option Addr} {n c : Nat} {l : List Int} (hl : (A, n, l) ∈ fz) (hn : n ≤ 300000) :
    Calls Try.prog 58 #[.pointer (some ⟨g, 0, none⟩), .slice A n c] w (fun e w' => e = .returned (.tuple #[]) ∧ ∃ fz', fz ⊆ fz' ∧ Gd w0 w' g R fz' Al nl cl As ns cs f Af nf cf o) := by
  obtain ⟨oL, oW, AL, k, cL, AW, cW, vL, vW, total, H, sL, sW, kp⟩ := h
  have h1 := kp.lo
  have h2 := kp.hi
  refine weftlaw7_steps_answers.run ?_
  unfold weftlaw7_steps_answers.s
  refine ⟨_, rfl, total, by rw [add_blk]; exact H.own.cell 0 24 rfl rfl, ?_⟩
  refine ifD (fun h3 => ?_) (fun h3 => ?_)
  · exact ⟨rfl, fz, fun _ h => h, oL, oW, AL, k, cL, AW, cW, vL, vW, total, H, sL, sW, kp⟩
  refine ⟨_, rfl, total, by rw [add_blk]; exact H.own.cell 0 24 rfl rfl, ?_⟩
  refine let_as (2 * (n : Int)) (w64 (by omega) (by omega)) ?_
  refine let_as (total + 2 * (n : Int)) (w64 (by omega) (by omega)) ?_
  refine let_as (total + 2 * (n : Int) + 400) (w64 (by omega) (by omega)) ?_
  refine ⟨_, rfl, ?_⟩
  rw [add_blk, Nat.zero_add]
  refine of_set 0 H rfl (Nat.lt_of_lt_of_le (by decide : 24 < 25) (Nat.le_refl 25)) fun w1 H => ?_
  refine ⟨_, rfl, AL, k, cL, by rw [add_blk]; exact H.own.cell 0 22 rfl rfl, ?_⟩
  refine let_as w1.heap.size rfl (let_as (w1.alloc (.cells [Value.slice A n c].toArray 28)) rfl ?_)
  have H1 : OF w0 (w1.alloc (.cells [Value.slice A n c].toArray 28)) _ fz := H.call ((Bel.refl w1).alloc _)
  refine app_at H1 sL (v := .slice A n c) rfl (Bk.new w1 _ _).at (by omega) fun oL' AL' cL' w2 H sL' => ?_
  refine ⟨_, rfl, ?_⟩
  rw [add_blk, Nat.zero_add]
  refine of_set 0 H rfl (Nat.lt_of_lt_of_le (by decide : 22 < 25) (Nat.le_refl 25)) fun w3 H => ?_
  replace H : OF w0 w3 ((g, 73, stc Al nl cl As ns cs f Af nf cf o AL' (k + 1) cL' AW k cW (total + 2 * (n : Int) + 400)) :: (oL'.toList ++ (oW.toList ++ R))) fz := H
  refine draws (fun w' => ∃ M, Own w0 w' ((g, 73, stc Al nl cl As ns cs f Af nf cf o AL' (k + 1) cL' AW k cW (total + 2 * (n : Int) + 400)) :: M)) ⟨_, H.own.drew⟩ fun w4 e4 => ?_
  have k4 : Bel w3 w4 := by rw [e4]; exact (Bel.refl w3).drew
  replace H := H.call k4
  refine ⟨_, rfl, AW, k, cW, fun w' ⟨M, h⟩ => by rw [add_blk]; exact h.cell 0 23 rfl rfl, ?_⟩
  have y := (H.fz _ hl).1
  refine buf_app (Buf.nil (Own.refl w4)) y (by show 0 + n ≤ _; omega) fun A5 c5 w5 q => ?_
  have y5 := q.by
  rw [List.nil_append] at y5
  have ne5 := H.new_ne q.fre
  replace H := H.call q.own.bel
  replace H := H.add (x := (A5, 0 + n, l)) y5 (fun _ => ne5)
  refine ⟨⟨_, H.own⟩, ?_⟩
  have H6 : OF w0 (w5.alloc (.cells [Value.slice A5 (0 + n) c5].toArray 28)) _ _ := H.call ((Bel.refl w5).alloc _)
  refine let_as w5.heap.size rfl (let_as (w5.alloc (.cells [Value.slice A5 (0 + n) c5].toArray 28)) rfl ?_)
  refine ⟨⟨_, H6.own⟩, ?_⟩
  have H7 := H6.perm (List.Perm.cons _ (List.perm_append_comm_assoc _ _ _))
  refine app_at H7 sW (v := .slice A5 (0 + n) c5) rfl (Bk.new w5 _ _).at (by omega) fun oW' AW' cW' w7 H sW' => ?_
  refine ⟨⟨_, H.own⟩, _, rfl, ?_⟩
  rw [add_blk, Nat.zero_add]
  refine of_set 0 H rfl (Nat.lt_of_lt_of_le (by decide : 23 < 25) (Nat.le_refl 25)) fun w8' H => ?_
  replace H := H.perm (List.Perm.cons _ (List.perm_append_comm_assoc _ _ _))
  refine ⟨rfl, _, fun _ h => List.mem_cons_of_mem _ h, oL', oW', AL', k + 1, cL', AW', cW', vL ++ [.slice A n c], vW ++ [.slice A5 (0 + n) c5], _, H, sL', sW', ⟨fun i hi => ?_, by omega, by omega⟩⟩
  by_cases hik : i < k
  · obtain ⟨B, m, d, B', d', l', e1, e2, e3, e4, e5⟩ := kp.eq i hik
    exact ⟨B, m, d, B', d', l', by rw [List.getElem?_append_left (by rw [sL.1]; exact hik)]; exact e1, by rw [List.getElem?_append_left (by rw [sW.1]; exact hik)]; exact e2, List.mem_cons_of_mem _ e3, List.mem_cons_of_mem _ e4, e5⟩
  · have : i = k := by omega
    subst this
    refine ⟨A, n, c, A5, c5, l, ?_, ?_, List.mem_cons_of_mem _ hl, ?_, hn⟩
    · rw [List.getElem?_append_right (by rw [sL.1]; exact Nat.le_refl _), sL.1, Nat.sub_self]
      rfl
    · rw [List.getElem?_append_right (by rw [sW.1]; exact Nat.le_refl _), sW.1, Nat.sub_self, Nat.zero_add]
      rfl
    · rw [Nat.zero_add]
      exact List.mem_cons_self
end Go.Proofs.YtleelkkddjldnaaS
