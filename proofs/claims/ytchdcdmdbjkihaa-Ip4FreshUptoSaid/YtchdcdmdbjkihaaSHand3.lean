/- Package weftlaw3: lists.
   Conditions: the step is as a row's argument holds it. -/
import Derived.Test.YtchdcdmdbjkihaaSAns3
namespace Go.Proofs.YtchdcdmdbjkihaaS
open Go Go.RowKit Go.Proofs Go.Proofs.YtchdcdmdbjkihaaX
set_option maxRecDepth 100000
set_option linter.unusedVariables false
set_option linter.unusedSectionVars false
set_option linter.unusedSimpArgs false
section
variable {w0 w : World} {g : Nat} {R : List Blk} {Zb : Int} {o : Op3} {Z : Option Addr} {zn zc : Nat} {Y : Option Addr} {yn yc : Nat} {A : Option Addr} {n c : Nat} {B : Option Addr} {m d : Nat}
def RetL3 (w0 : World) (g : Nat) (R : List Blk) (Zb : Int) (e : Ending) (w' : World) : Prop := ∃ (A : Option Addr) (n c : Nat) (B : Option Addr) (m d : Nat),
  e = .returned (.tuple #[.slice A n c, .slice B m d, .bool true]) ∧ Hold w0 w' g R Zb A c B d ∧ n ≤ c ∧ m ≤ d ∧ n ≤ 1000000000 ∧ m ≤ 1000000000
theorem pgi {α : Type} (a b x c : α) (R : List α) : (a :: b :: x :: c :: R).Perm (x :: a :: b :: c :: R) :=
  ((List.Perm.swap x b (c :: R)).cons a).trans (List.Perm.swap x a (b :: c :: R))
theorem lists_t (ho : o.Fine) (hx : OpAt w0 o Z zn zc Y yn yc A n c B m d) (H : BkAt w0 w g R Zb) :
    Calls Try.prog 11 #[.agg (opv o Z zn zc Y yn yc A n c B m d).toArray] w (RetL3 w0 g R Zb) := by
  have l1 := hx.b.len
  have s1 := ho.lb
  refine weftlaw3_lists.run ?_
  unfold weftlaw3_lists.s
  refine pend_new (l := opv o Z zn zc Y yn yc A n c B m d) H fun g1 w1 H _ => ?_
  refine ⟨_, _, _, H.own.cell 0 1 rfl rfl, ?_⟩
  refine call_of (roomy_c (hx.b.bel H.own.bel) (by omega)) ?_
  rintro e w2 ⟨gi, rfl, k2⟩
  rw [l1]
  replace H : BkAt w0 w2 g ((gi, 5, bv (o.b ++ rm)) :: (g1, 39, opv o Z zn zc Y yn yc A n c B m d) :: R) Zb := H.join k2
  refine ⟨_, _, _, rfl, ?_⟩
  refine ⟨_, _, _, H.own.cell 1 1 rfl rfl, _, H.own.cell 1 0 rfl rfl, ?_⟩
  have hin := (room_by H.own 0 rfl l1).1
  refine ifE (fun _ => ?_) (fun _ => ?_)
  · refine ⟨⟨by omega, by omega⟩, ?_⟩
    refine call_of (parse_a3 hin ho.b (Nat.le_add_right _ _) (by omega)) ?_
    rintro e w3 ⟨k3, A', n', c', B', m', d', rfl, y, t⟩
    have H2 := hold_of H k3 t.r t.a t.b
    refine ⟨_, _, _, _, _, _, _, _, _, _, _, _, _, _, _, _, rfl, ?_⟩
    refine hold_mkB (pb pz none 0 0 none 0 0) H2 rfl rfl fun g23 w4 H3 b4 => ?_
    replace y := y.bel b4
    refine ⟨_, _, _, H3.own.cell 2 1 rfl rfl, ?_⟩
    refine call_of (Parse3_c (hx.b.bel H3.own.bel) ho.b hx.cb (by omega)) ?_
    intro e w5 he
    obtain ⟨k5, A1, n1, c1, B1, m1, d1, rfl, y2, _, _⟩ := rd_out he
    replace y := y.bel k5
    replace H3 := H3.call k5
    refine ⟨_, _, _, _, _, _, _, _, _, _, _, _, _, _, _, _, rfl, ?_⟩
    refine hold_mkB (pb pz none 0 0 none 0 0) H3 rfl rfl fun g41 w6 H4 b6 => ?_
    replace y := y.bel b6
    replace y2 := y2.bel b6
    refine draws (fun w' => ∃ X, Hold w0 w' g ((g41, 37, pb (pkOut o.b) A1 n1 c1 B1 m1 d1) :: (g23, 37, pb (pkOut o.b) A' n' c' B' m' d') :: (gi, 5, X) :: (g1, 39, opv o Z zn zc Y yn yc A n c B m d) :: R) Zb A' c' B' d') ⟨_, H4.call (Bel.refl w6).drew⟩ fun w7 e7 => ?_
    have b7 : Bel w6 w7 := by rw [e7]; exact (Bel.refl w6).drew
    replace y := y.bel b7
    replace y2 := y2.bel b7
    have H5 := H4.call b7
    refine ⟨_, _, _, fun w' ⟨X, h⟩ => h.own.cell 1 9 rfl rfl, _, _, _, fun w' ⟨X, h⟩ => h.own.cell 1 10 rfl rfl, ?_⟩
    refine ⟨_, _, _, _, _, _, _, _, _, _, _, _, _, _, _, ⟨rfl, fun w' ⟨X, h⟩ => (h.own.bk 1 rfl).at⟩, ?_⟩
    refine ⟨_, _, _, _, _, _, _, _, _, _, _, _, _, _, _, ⟨rfl, fun w' ⟨X, h⟩ => (h.own.bk 0 rfl).at⟩, ?_⟩
    have t9 := t.n9
    have u9 := t.m9
    refine call_of (packets_t (p := pkOut o.b) y y2 (by omega) (by omega)) ?_
    rintro e w8 ⟨rfl, k8⟩
    replace H5 := H5.call k8
    refine ⟨_, rfl, ⟨_, H5⟩, ifB (fun _ => ?_) (fun h => by cases h)⟩
    refine ⟨_, _, _, fun w' ⟨X, h⟩ => h.own.cell 3 1 rfl rfl, ?_⟩
    refine call_of (kept_c (room_by H5.own 2 rfl l1).2 (hx.b.bel H5.own.bel) (by omega)) ?_
    rintro e w9 ⟨rfl, k9⟩
    replace H5 := H5.call k9
    refine ⟨_, rfl, ⟨_, H5⟩, ifB (fun _ => ?_) (fun h => by cases h)⟩
    refine ⟨_, _, _, _, _, _, _, _, _, _, _, _, _, _, _, _, _, _, _, _, _, _, _, _, _, ⟨rfl, fun w' ⟨X, h⟩ => (h.own.bk 3 rfl).at⟩, ⟨by omega, by omega⟩, ?_⟩
    refine call_of (turned_t ho hx (by omega) l1 ho.b (H5.perm (pgi _ _ _ _ _))) ?_
    rintro e w10 ⟨rfl, l', _, _, H6⟩
    refine ⟨_, rfl, ⟨_, H6.perm (pgi _ _ _ _ _).symm⟩, ?_⟩
    exact ⟨A', n', c', B', m', d', rfl, H6.tail.tail.tail.tail, t.nc, t.md, t9, u9⟩
  refine ifE (fun _ => ?_) (fun _ => ?_)
  · refine ⟨⟨by omega, by omega⟩, ?_⟩
    refine call_of (peek_a3 hin ho.b (Nat.le_add_right _ _) (by omega)) ?_
    rintro e w3 ⟨k3, A', n', c', B', m', d', rfl, y, t⟩
    have H2 := hold_of H k3 t.r t.a t.b
    refine ⟨_, _, _, _, _, _, _, _, _, _, _, _, _, _, _, _, rfl, ?_⟩
    refine hold_mkB hz H2 rfl rfl fun g23 w4 H3 b4 => ?_
    replace y := y.bel b4
    refine ⟨_, _, _, H3.own.cell 2 1 rfl rfl, ?_⟩
    refine call_of (Peek3_c (hx.b.bel H3.own.bel) ho.b hx.cb (by omega)) ?_
    intro e w5 he
    obtain ⟨k5, A1, n1, c1, B1, m1, d1, rfl, y2, _, _⟩ := pe_out he
    replace y := y.bel k5
    replace H3 := H3.call k5
    refine ⟨_, _, _, _, _, _, _, _, _, _, _, _, _, _, _, _, rfl, ?_⟩
    refine hold_mkB hz H3 rfl rfl fun g41 w6 H4 b6 => ?_
    replace y := y.bel b6
    replace y2 := y2.bel b6
    refine draws (fun w' => ∃ X, Hold w0 w' g ((g41, 35, pv (pePk o.b) A1 n1 c1) :: (g23, 35, pv (pePk o.b) A' n' c') :: (gi, 5, X) :: (g1, 39, opv o Z zn zc Y yn yc A n c B m d) :: R) Zb A' c' B' d') ⟨_, H4.call (Bel.refl w6).drew⟩ fun w7 e7 => ?_
    have b7 : Bel w6 w7 := by rw [e7]; exact (Bel.refl w6).drew
    replace y := y.bel b7
    replace y2 := y2.bel b7
    have H5 := H4.call b7
    refine ⟨_, _, _, fun w' ⟨X, h⟩ => h.own.cell 1 9 rfl rfl, ?_⟩
    refine ⟨_, _, _, _, _, _, _, _, _, _, _, _, ⟨rfl, fun w' ⟨X, h⟩ => (h.own.bk 1 rfl).at⟩, ?_⟩
    refine ⟨_, _, _, _, _, _, _, _, _, _, _, _, ⟨rfl, fun w' ⟨X, h⟩ => (h.own.bk 0 rfl).at⟩, ?_⟩
    have t9 := t.n9
    have u9 := t.m9
    refine call_of (heads_t y.opts y2.opts (by omega)) ?_
    rintro e w8 ⟨rfl, k8⟩
    replace H5 := H5.call k8
    refine ⟨_, rfl, ⟨_, H5⟩, ifB (fun _ => ?_) (fun h => by cases h)⟩
    refine call_of (same_t (y.body.bel k8) (y2.body.bel k8) (by omega)) ?_
    rintro e w81 ⟨rfl, k81⟩
    replace H5 := H5.call k81
    refine ⟨_, rfl, ⟨_, H5⟩, ifB (fun _ => ?_) (fun h => by cases h)⟩
    refine ⟨_, _, _, fun w' ⟨X, h⟩ => h.own.cell 3 1 rfl rfl, ?_⟩
    refine call_of (kept_c (room_by H5.own 2 rfl l1).2 (hx.b.bel H5.own.bel) (by omega)) ?_
    rintro e w9 ⟨rfl, k9⟩
    replace H5 := H5.call k9
    refine ⟨_, rfl, ⟨_, H5⟩, ifB (fun _ => ?_) (fun h => by cases h)⟩
    refine ⟨_, _, _, _, _, _, _, _, _, _, _, _, _, _, _, _, _, _, _, _, _, _, _, _, _, ⟨rfl, fun w' ⟨X, h⟩ => (h.own.bk 3 rfl).at⟩, ⟨by omega, by omega⟩, ?_⟩
    refine call_of (turned_t ho hx (by omega) l1 ho.b (H5.perm (pgi _ _ _ _ _))) ?_
    rintro e w10 ⟨rfl, l', _, _, H6⟩
    refine ⟨_, rfl, ⟨_, H6.perm (pgi _ _ _ _ _).symm⟩, ?_⟩
    exact ⟨A', n', c', B', m', d', rfl, H6.tail.tail.tail.tail, t.nc, t.md, t9, u9⟩
  refine ifE (fun _ => ?_) (fun _ => ?_)
  · refine ⟨⟨by omega, by omega⟩, ?_⟩
    refine call_of (Age4_c hin ho.b (Nat.le_add_right _ _) (by omega)) ?_
    intro e w3 he
    have hlen := ageL_len ho.b (by omega)
    obtain ⟨k3, A', c', rfl, y, t⟩ := he.two (by omega)
    have H2 := hold_of H k3 t.r t.a t.b
    refine ⟨_, _, _, _, rfl, ?_⟩
    refine ⟨_, _, _, H2.own.cell 1 1 rfl rfl, ?_⟩
    refine call_of (Age3_c (hx.b.bel H2.own.bel) ho.b hx.cb (by omega)) ?_
    rintro e w5 ⟨k5, A1, c1, rfl, y2, _, _⟩
    replace y := y.bel k5
    replace H2 := H2.call k5
    refine ⟨_, _, _, _, rfl, ?_⟩
    refine draws (fun w' => ∃ X, Hold w0 w' g ((gi, 5, X) :: (g1, 39, opv o Z zn zc Y yn yc A n c B m d) :: R) Zb A' c' none 0) ⟨_, H2.call (Bel.refl w5).drew⟩ fun w7 e7 => ?_
    have b7 : Bel w5 w7 := by rw [e7]; exact (Bel.refl w5).drew
    have H5 := H2.call b7
    refine call_of (same_t (y.bel b7) (y2.bel b7) (by omega)) ?_
    rintro e w8 ⟨rfl, k8⟩
    replace H5 := H5.call k8
    refine ⟨_, rfl, ⟨_, H5⟩, ifB (fun _ => ?_) (fun h => by cases h)⟩
    refine ⟨_, _, _, fun w' ⟨X, h⟩ => h.own.cell 1 1 rfl rfl, ?_⟩
    refine call_of (kept_c (room_by H5.own 0 rfl l1).2 (hx.b.bel H5.own.bel) (by omega)) ?_
    rintro e w9 ⟨rfl, k9⟩
    replace H5 := H5.call k9
    refine ⟨_, rfl, ⟨_, H5⟩, ifB (fun _ => ?_) (fun h => by cases h)⟩
    refine ⟨_, _, _, _, _, _, _, _, _, _, _, _, _, _, _, _, _, _, _, _, _, _, _, _, _, ⟨rfl, fun w' ⟨X, h⟩ => (h.own.bk 1 rfl).at⟩, ⟨by omega, by omega⟩, ?_⟩
    refine call_of (turned_t ho hx (by omega) l1 ho.b H5) ?_
    rintro e w10 ⟨rfl, l', _, _, H6⟩
    refine ⟨_, rfl, ⟨_, H6⟩, ?_⟩
    exact ⟨A', _, c', none, 0, 0, rfl, H6.tail.tail, t.nc, t.md, t.n9, t.m9⟩
  refine ifE (fun _ => ?_) (fun _ => ?_)
  · refine ⟨⟨by omega, by omega⟩, ?_⟩
    refine call_of (Copied4_c hin ho.b (Nat.le_add_right _ _) (by omega)) ?_
    intro e w3 he
    have hlen := copL_len (o := o.b)
    obtain ⟨k3, A', c', rfl, y, t⟩ := he.two (by omega)
    have H2 := hold_of H k3 t.r t.a t.b
    refine ⟨_, _, _, _, rfl, ?_⟩
    refine ⟨_, _, _, H2.own.cell 1 1 rfl rfl, ?_⟩
    refine call_of (Copied3_c (hx.b.bel H2.own.bel) ho.b hx.cb) ?_
    intro e w5 he
    obtain ⟨k5, A1, c1, rfl, y2, _, _⟩ := he.le
    replace y := y.bel k5
    replace H2 := H2.call k5
    refine ⟨_, _, _, _, rfl, ?_⟩
    refine draws (fun w' => ∃ X, Hold w0 w' g ((gi, 5, X) :: (g1, 39, opv o Z zn zc Y yn yc A n c B m d) :: R) Zb A' c' none 0) ⟨_, H2.call (Bel.refl w5).drew⟩ fun w7 e7 => ?_
    have b7 : Bel w5 w7 := by rw [e7]; exact (Bel.refl w5).drew
    have H5 := H2.call b7
    refine call_of (same_t (y.bel b7) (y2.bel b7) (by omega)) ?_
    rintro e w8 ⟨rfl, k8⟩
    replace H5 := H5.call k8
    refine ⟨_, rfl, ⟨_, H5⟩, ifB (fun _ => ?_) (fun h => by cases h)⟩
    refine ⟨_, _, _, fun w' ⟨X, h⟩ => h.own.cell 1 1 rfl rfl, ?_⟩
    refine call_of (kept_c (room_by H5.own 0 rfl l1).2 (hx.b.bel H5.own.bel) (by omega)) ?_
    rintro e w9 ⟨rfl, k9⟩
    replace H5 := H5.call k9
    refine ⟨_, rfl, ⟨_, H5⟩, ifB (fun _ => ?_) (fun h => by cases h)⟩
    refine ⟨_, _, _, _, _, _, _, _, _, _, _, _, _, _, _, _, _, _, _, _, _, _, _, _, _, ⟨rfl, fun w' ⟨X, h⟩ => (h.own.bk 1 rfl).at⟩, ⟨by omega, by omega⟩, ?_⟩
    refine call_of (turned_t ho hx (by omega) l1 ho.b H5) ?_
    rintro e w10 ⟨rfl, l', _, _, H6⟩
    refine ⟨_, rfl, ⟨_, H6⟩, ?_⟩
    exact ⟨A', _, c', none, 0, 0, rfl, H6.tail.tail, t.nc, t.md, t.n9, t.m9⟩
  · have t := two_nil w2 w2
    have H2 := hold_of H (Bel.refl _) t.r t.a t.b
    exact ⟨none, 0, 0, none, 0, 0, rfl, H2.tail.tail, t.nc, t.md, t.n9, t.m9⟩
end
end Go.Proofs.YtchdcdmdbjkihaaS
