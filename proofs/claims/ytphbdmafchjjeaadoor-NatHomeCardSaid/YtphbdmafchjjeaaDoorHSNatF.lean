/- Package nat: Turn.
   Conditions: a packet's and a tuple's fields are of their kinds. -/
import Derived.Test.YtphbdmafchjjeaaDoorHSNatE
namespace Go.Proofs.YtphbdmafchjjeaaDoorS
open Go Go.RowKit Go.Proofs Go.Proofs.YtphbdmafchjjeaaDoorX
set_option maxRecDepth 100000
set_option linter.unusedVariables false
set_option linter.unusedSectionVars false
set_option linter.unusedSimpArgs false

theorem cloned_c {w : World} {A : Option Addr} {n c : Nat} {l : List Int} (h : By w A n l) (hn : n ≤ 1000000000000) : Calls Tryd.prog 38 #[.slice A n c] w (fun e w' => ∃ A' c', e = .returned (.slice A' (0 + n) c') ∧ Buf w w' [] A' (0 + n) c' l) := by
  refine nat_cloned.run ?_
  unfold nat_cloned.s
  refine buf_app (Buf.nil (Own.refl w)) h (by omega) fun A' c' wb q => ?_
  exact ⟨A', c', rfl, by rwa [List.nil_append] at q⟩
/-- Why a packet is not turned; 0: it is. -/
def turnE (p : Pk) (u : Tp) : Int := if p.err ≠ 0 then p.err else if ofE p ≠ 0 ∨ u.proto ≠ p.proto ∨ (u.proto = 1 ∧ u.sp ≠ u.dp) then 230 else 0
/-- The packet under another tuple. -/
def turnP (p : Pk) (u : Tp) : Pk := { p with src := u.src, dst := u.dst, body := if eqV (tpv (ofT p)) (tpv u) = true then p.body else carV p.body u.proto (ofT p) u true }
def turnO (p : Pk) (u : Tp) : Pk := if turnE p u = 0 then turnP p u else pz
theorem at10 {w : World} {g : Nat} {t : TypeId} {p : Pk} {A : Option Addr} {n c : Nat} {B : Option Addr} {m d : Nat} (h : Bk w g t (pb p A n c B m d)) : At w ⟨g, 0, none⟩ [.int .u8 p.tos, .int .u16 p.id, .bool p.df, .bool p.mf, .int .i64 p.off, .int .u8 p.ttl, .int .u8 p.proto, .int .u32 p.src, .int .u32 p.dst, .slice A n c] := fun j v hv => by
  have hj : j < 10 := (List.getElem?_eq_some_iff.1 hv).1
  refine h.at j v ?_
  show (([.int .u8 p.tos, .int .u16 p.id, .bool p.df, .bool p.mf, .int .i64 p.off, .int .u8 p.ttl, .int .u8 p.proto, .int .u32 p.src, .int .u32 p.dst, .slice A n c] : List Value) ++ [.slice B m d])[j]? = some v
  rw [List.getElem?_append_left hj]
  exact hv
/-- .. all that stood being as it was. -/
def RetTu (w : World) (q : Pk) (k : Int) (e : Ending) (w' : World) : Prop := Bel w w' ∧ RetPk w q k e w'
theorem ret_turn_no {w0 w : World} {p : Pk} {u : Tp} {k : Int} (hb : Bel w0 w) (h : turnE p u = k) (hk : k ≠ 0) : RetTu w0 (turnO p u) (turnE p u) (.returned (.tuple #[.agg (pb pz none 0 0 none 0 0).toArray, .int .i64 k])) w := by
  have e : turnO p u = pz := by unfold turnO; rw [if_neg (by omega)]
  rw [e, h]
  exact ⟨hb, ret_pz w0 w k⟩
section
variable {w0 : World} {p : Pk} {u : Tp} (h : p.Fine) (hu : u.Fine) (ho : ofE p = 0) (he : turnE p u = 0)
include h hu ho he
theorem ofE_len : 8 ≤ p.body.length ∧ (p.err = 0) := by
  unfold ofE at ho
  by_cases h1 : p.err ≠ 0
  · rw [if_pos h1] at ho; exact absurd ho h1
  rw [if_neg h1] at ho
  by_cases h2 : p.off > 0
  · rw [if_pos h2] at ho; omega
  rw [if_neg h2] at ho
  by_cases h4 : (p.proto = 1 ∨ p.proto = 17) ∧ p.body.length < 8
  · rw [if_pos h4] at ho; omega
  rw [if_neg h4] at ho
  by_cases h5 : p.proto = 6 ∧ p.body.length < 20
  · rw [if_pos h5] at ho; omega
  rw [if_neg h5] at ho
  unfold ofE4 at ho
  by_cases h6 : p.proto = 17
  · exact ⟨by omega, by omega⟩
  rw [if_neg h6] at ho
  by_cases h7 : p.proto = 6
  · exact ⟨by omega, by omega⟩
  rw [if_neg h7] at ho
  by_cases h8 : p.proto = 1
  · exact ⟨by omega, by omega⟩
  rw [if_neg h8] at ho
  omega
theorem Turn_j3 {w : World} {g4 g10 gB : Nat} {A : Option Addr} {n c : Nat} {m d : Nat} {pad : List Int} {M : List Blk} (hd : m ≤ d) (hc : n ≤ c) (hl : (turnP p u).body.length = m) (fA : Fre w0 A)
    (H : OF w0 w ((gB, 5, bv ((turnP p u).body ++ pad)) :: (g10, 45, pb (turnP p u) A n c (some ⟨gB, 0, none⟩) m d) :: (g4, 45, pb pz none 0 0 none 0 0) :: M) [(A, n, p.opts)]) :
    nat_Turn.J3 g4 g10 w (RetTu w0 (turnO p u) (turnE p u)) := by
  unfold nat_Turn.J3; intros
  rw [nat_Turn.j3_eq]
  refine ld_pkt (H.own.bk 1 rfl) ?_
  refine of_put 2 H rfl rfl (Nat.le_refl 11) fun w1 H => ?_
  refine ld_pkt (a0 := (turnP p u).tos) (H.own.bk 2 rfl) ?_
  have e : turnO p u = turnP p u := by unfold turnO; rw [if_pos he]
  rw [e, he]
  have yb := (H.own.bk 0 rfl).by.take (k := m) (by rw [List.length_append]; omega)
  rw [List.take_left' hl] at yb
  exact ⟨H.own.bel, A, n, c, _, m, d, rfl, ⟨(H.fz _ List.mem_cons_self).1, yb, hc, hd⟩, fA, Fre.mk (H.own.ge 0 rfl)⟩
theorem Turn_j2 {w : World} {g2 g3 g4 g8 g10 gB : Nat} {A : Option Addr} {n c : Nat} {B : Option Addr} {m d0 d : Nat} {pad : List Int} (hn : n ≤ 1000000000000) (yA : By w0 A n p.opts) (hd : m ≤ d) (hl : p.body.length = m) (hm : m ≤ 1000000)
    (H : Own w0 w [(gB, 5, bv (p.body ++ pad)), (g10, 45, pb p A n c (some ⟨gB, 0, none⟩) m d), (g4, 45, pb pz none 0 0 none 0 0), (g8, 32, tpv (ofT p)), (g3, 32, tpv u), (g2, 45, pb p A n c B m d0)]) :
    nat_Turn.J2 g2 g3 g4 g8 g10 w (RetTu w0 (turnO p u) (turnE p u)) := by
  unfold nat_Turn.J2; intros
  rw [nat_Turn.j2_eq]
  refine ⟨_, _, _, H.cell 5 9 rfl rfl, ?_⟩
  refine call_of (cloned_c (yA.bel H.bel) hn) ?_
  rintro e w1 ⟨A4, c4, rfl, q⟩
  refine ⟨_, _, _, rfl, ?_⟩
  have H0 : OF w0 w _ [] := ⟨H, fun x hx => by cases hx⟩
  have ne := H0.new_ne q.fre
  have fA : Fre w0 A4 := q.fre.le H.bel
  have H1 := (H0.call q.own.bel).add (x := (A4, 0 + n, p.opts)) q.by (fun _ => ne)
  refine of_set 1 H1 rfl (Nat.lt_of_lt_of_le (by decide : 9 < 11) (Nat.le_refl 11)) fun w2 H2 => ?_
  refine draws (fun w' => Bk w' g3 32 (tpv u)) ((H2.call (Bel.refl w2).drew).own.bk 4 rfl) fun w3 e3 => ?_
  replace H2 := H2.call (Bel.refl w2).drew
  rw [← e3] at H2
  refine ⟨_, fun w' h => h.cell 0 rfl, _, fun w' h => h.cell 1 rfl, ?_⟩
  refine of_set 1 H2 rfl (Nat.lt_of_lt_of_le (by decide : 7 < 11) (Nat.le_refl 11)) fun w4 H4 => ?_
  refine ⟨H4.own.bk 4 rfl, ?_⟩
  refine of_set 1 H4 rfl (Nat.lt_of_lt_of_le (by decide : 8 < 11) (Nat.le_refl 11)) fun w5 H5 => ?_
  refine ⟨H5.own.bk 4 rfl, ?_⟩
  refine ⟨_, _, _, _, _, ⟨rfl, (H5.own.bk 3 rfl).at⟩, ?_⟩
  refine ⟨_, _, _, _, _, ⟨rfl, (H5.own.bk 4 rfl).at⟩, ?_⟩
  have l8 := ofE_len h hu ho he
  have hT : (ofT p).Fine := by
    unfold ofT
    rw [if_pos ho]
    exact ofT1_fine h
  by_cases hq : eqV (tpv (ofT p)) (tpv u) = true
  · have e2 : (!(eqV (tpv (ofT p)) (tpv u))) = false := by rw [hq]; rfl
    have eb : turnP p u = { p with src := u.src, dst := u.dst } := by unfold turnP; rw [if_pos hq]
    refine ifNot (fun hx => ?_) (fun _ => ?_)
    · exact absurd (hq.symm.trans hx) (by decide)
    · have k := Turn_j3 (w0 := w0) (w := w5) (g4 := g4) (g10 := g10) (gB := gB) (A := A4) (n := 0 + n) (c := c4) (m := m) (d := d) (pad := pad) (M := [(g8, 32, tpv (ofT p)), (g3, 32, tpv u), (g2, 45, pb p A n c B m d0)]) h hu ho he hd q.le (by rw [eb]; exact hl) fA (by rw [eb]; exact H5)
      exact ⟨by with_reducible apply k⟩
  · refine ifNot (fun _ => ?_) (fun hx => absurd hx hq)
    have eb : turnP p u = { p with src := u.src, dst := u.dst, body := carV p.body u.proto (ofT p) u true } := by unfold turnP; rw [if_neg hq]
    refine ⟨_, _, _, H5.own.cell 1 10 rfl rfl, _, H5.own.cell 4 2 rfl rfl, ?_⟩
    refine ⟨_, _, _, _, _, ⟨rfl, (H5.own.bk 3 rfl).at⟩, ?_⟩
    refine ⟨_, _, _, _, _, ⟨rfl, (H5.own.bk 4 rfl).at⟩, ?_⟩
    refine call_of (carried_c (w0 := w0) (pre := []) (b := p.body) (post := pad) (o := 0) (n := m) (c := d) (proto := u.proto) (whole := true) (s := ofT p) (u := u) (gB := gB) H5 rfl hl h.body hT hu (by omega) hm) ?_
    rintro e w6 ⟨rfl, H6⟩
    refine ⟨rfl, ?_⟩
    have k := Turn_j3 (w0 := w0) (w := w6) (g4 := g4) (g10 := g10) (gB := gB) (A := A4) (n := 0 + n) (c := c4) (m := m) (d := d) (pad := pad) (M := [(g8, 32, tpv (ofT p)), (g3, 32, tpv u), (g2, 45, pb p A n c B m d0)]) h hu ho he hd q.le (by rw [eb]; exact (carV_len _ _ _ _ _).trans hl) fA (by rw [eb]; exact H6)
    exact ⟨by with_reducible apply k⟩
theorem Turn_j1 {w : World} {g2 g3 g4 g8 : Nat} {A : Option Addr} {n c : Nat} {B : Option Addr} {m d0 : Nat} (hn : n ≤ 1000000000000) (yA : By w0 A n p.opts) (yB : By w0 B m p.body) (hm : m ≤ 1000000)
    (H : Own w0 w [(g8, 32, tpv (ofT p)), (g4, 45, pb pz none 0 0 none 0 0), (g3, 32, tpv u), (g2, 45, pb p A n c B m d0)]) :
    nat_Turn.J1 g2 g3 g4 g8 w (RetTu w0 (turnO p u) (turnE p u)) := by
  have hl := yB.len
  have l8 := ofE_len h hu ho he
  unfold nat_Turn.J1; intros
  rw [nat_Turn.j1_eq]
  refine draws (fun w' => Bk w' g2 45 (pb p A n c B m d0)) (H.drew.bk 3 rfl) fun w1 e1 => ?_
  replace H := H.drew
  rw [← e1] at H
  refine ⟨_, _, _, _, _, _, _, _, _, _, _, _, ⟨rfl, fun w' h => at10 h⟩, ?_⟩
  refine ⟨_, _, _, fun w' h => h.cell 10 rfl, ?_⟩
  have blk_of : ∀ {wa wb : World} {A' : Option Addr} {c' : Nat}, Buf wa wb [] A' (0 + m) c' p.body → ∃ gB pad, A' = some ⟨gB, 0, none⟩ ∧ Own wa wb [(gB, 5, bv (p.body ++ pad))] := fun {wa wb A' c'} q => by
    rcases q.2 with ⟨_, _, hb, _⟩ | ⟨g, pad, hA, _, ho⟩
    · rw [hb] at l8
      exact absurd l8.1 (by decide)
    · exact ⟨g, pad, hA, ho⟩
  refine ⟨?_, ?_⟩
  · refine call_of (cloned_c (yB.bel H.bel) (by omega)) ?_
    rintro e w2 ⟨A16, c16, rfl, q⟩
    have hle := q.le
    obtain ⟨gB, pad, rfl, HB⟩ := blk_of q
    have H2 := Own.join H HB
    refine ⟨_, _, _, rfl, H2.bk 4 rfl, ?_⟩
    refine own_new (l := pb pz none 0 0 none 0 0) H2 fun g17 w3 H3 => ?_
    refine ⟨H3.bk 5 rfl, ?_⟩
    refine own_putB 0 H3 rfl rfl (Nat.le_refl 11) fun w4 H4 u4 => ?_
    refine ⟨H4.bk 5 rfl, ?_⟩
    replace H4 : Own w0 w4 [(g17, 45, pb p A n c (some ⟨gB, 0, none⟩) (0 + m) c16), (gB, 5, bv (p.body ++ pad)), (g8, 32, tpv (ofT p)), (g4, 45, pb pz none 0 0 none 0 0), (g3, 32, tpv u), (g2, 45, pb p A n c B m d0)] := H4
    rw [Nat.zero_add] at H4 hle
    have k := Turn_j2 (w0 := w0) (w := w4) h hu ho he hn yA hle hl hm (H4.perm ((List.Perm.swap _ _ _).trans (List.Perm.cons _ (List.Perm.cons _ (List.Perm.swap _ _ _)))))
    exact ⟨by with_reducible apply k⟩
  · refine own_new (l := pb pz none 0 0 none 0 0) H fun g20 w3 H3 => ?_
    refine ⟨H3.bk 4 rfl, ?_⟩
    refine call_of (cloned_c (yB.bel H3.bel) (by omega)) ?_
    rintro e w2 ⟨A16, c16, rfl, q⟩
    have hle := q.le
    obtain ⟨gB, pad, rfl, HB⟩ := blk_of q
    have H2 := Own.join H3 HB
    refine ⟨_, _, _, rfl, H2.bk 5 rfl, ?_⟩
    refine own_putB 1 H2 rfl rfl (Nat.le_refl 11) fun w4 H4 u4 => ?_
    refine ⟨H4.bk 5 rfl, ?_⟩
    replace H4 : Own w0 w4 [(gB, 5, bv (p.body ++ pad)), (g20, 45, pb p A n c (some ⟨gB, 0, none⟩) (0 + m) c16), (g8, 32, tpv (ofT p)), (g4, 45, pb pz none 0 0 none 0 0), (g3, 32, tpv u), (g2, 45, pb p A n c B m d0)] := H4
    rw [Nat.zero_add] at H4 hle
    have k := Turn_j2 (w0 := w0) (w := w4) h hu ho he hn yA hle hl hm (H4.perm (List.Perm.cons _ (List.Perm.cons _ (List.Perm.swap _ _ _))))
    exact ⟨by with_reducible apply k⟩
end
theorem Turn_c {w : World} {p : Pk} {u : Tp} (h : p.Fine) (hu : u.Fine) {A : Option Addr} {n c : Nat} {B : Option Addr} {m d : Nat} (hp : PkAt w p A n c B m d) :
    Calls Tryd.prog 20 #[.agg (pb p A n c B m d).toArray, .agg (tpv u).toArray] w (RetTu w (turnO p u) (turnE p u)) := by
  refine nat_Turn.run ?_
  unfold nat_Turn.s
  refine own_new (l := pb p A n c B m d) (Own.refl w) fun g1 w1 H => ?_
  refine own_new (l := tpv u) H fun g3 w2 H => ?_
  refine own_new (l := pb pz none 0 0 none 0 0) H fun g5 w3 H => ?_
  refine ld_pkt (H.bk 2 rfl) ?_
  refine call_of (Build_e h (hp.bel H.bel)) ?_
  rintro e w4 ⟨k4, C, i, j, rfl, _⟩
  refine ⟨_, _, _, _, rfl, ?_⟩
  replace H := H.call k4
  refine ifN (fun h1 => ?_) (fun h1 => ?_)
  · refine put_pkt 0 H rfl rfl fun w5 H _ => ?_
    exact ret_turn_no H.bel (by unfold turnE; rw [if_pos h1]) h1
  have hE : p.err = 0 := by omega
  have t230 : (ofE p ≠ 0 ∨ u.proto ≠ p.proto ∨ (u.proto = 1 ∧ u.sp ≠ u.dp)) → turnE p u = 230 := fun hx => by unfold turnE; rw [if_neg (fun hx => hx hE), if_pos hx]
  refine ld_pkt (H.bk 2 rfl) ?_
  refine call_of (Of_c h (hp.bel H.bel)) ?_
  rintro e w5 ⟨rfl, k5⟩
  refine ⟨_, _, _, _, _, _, rfl, ?_⟩
  replace H := H.call k5
  refine own_mk (tpv tpz) H rfl rfl fun g53 w6 H k6 _ => ?_
  refine ifN (fun h2 => ?_) (fun h2 => ?_)
  · refine put_pkt 1 H rfl rfl fun w7 H _ => ?_
    exact ret_turn_no H.bel (t230 (Or.inl h2)) (by decide)
  have ho : ofE p = 0 := by omega
  refine ⟨u.proto, H.cell 2 2 rfl rfl, p.proto, H.cell 3 6 rfl rfl, ?_⟩
  refine ifN (fun h3 => ?_) (fun h3 => ?_)
  · refine put_pkt 1 H rfl rfl fun w7 H _ => ?_
    exact ret_turn_no H.bel (t230 (Or.inr (Or.inl h3))) (by decide)
  refine ⟨u.proto, H.cell 2 2 rfl rfl, ?_⟩
  have hz := Pk.err_zero hE
  have lo := hp.opts.len
  have lb := hp.body.len
  have fin : ¬ (u.proto = 1 ∧ u.sp ≠ u.dp) → nat_Turn.J1 g1 g3 g5 g53 w6 (RetTu w (turnO p u) (turnE p u)) := fun hx =>
    Turn_j1 (w0 := w) (w := w6) h hu ho (by unfold turnE; rw [if_neg (fun hx => hx hE), if_neg (fun hy => by rcases hy with hy | hy | hy; exact hy ho; exact hy h3; exact hx hy)]) (by omega) hp.opts hp.body (by omega) H
  refine ifE (fun h4 => ?_) (fun h4 => ?_)
  · refine ⟨u.sp, H.cell 2 3 rfl rfl, u.dp, H.cell 2 4 rfl rfl, ?_⟩
    refine ifN (fun h5 => ?_) (fun h5 => ?_)
    · refine put_pkt 1 H rfl rfl fun w7 H _ => ?_
      exact ret_turn_no H.bel (t230 (Or.inr (Or.inr ⟨h4, h5⟩))) (by decide)
    · have k := fin (fun hx => hx.2 h5)
      exact ⟨by with_reducible apply k⟩
  · have k := fin (fun hx => h4 hx.1)
    exact ⟨by with_reducible apply k⟩
end Go.Proofs.YtphbdmafchjjeaaDoorS
