/- Package weftlaw6, script.go: that two answers agree; the step with one thing another one.
   Conditions: the step's lists are one's own. -/
import Derived.Test.YtchdcdmdbjkihaaDoorSJB
namespace Go.Proofs.YtchdcdmdbjkihaaDoorS
open Go Go.RowKit Go.Proofs Go.Proofs.YtchdcdmdbjkihaaDoorX
set_option maxRecDepth 100000
set_option linter.unusedVariables false
set_option linter.unusedSectionVars false
set_option linter.unusedSimpArgs false

structure Tk.Sm (T : Tk) : Prop where
  q : T.q.body.length ≤ 1000000000
  o : T.p.opts.length ≤ 1000000000
  b : T.p.body.length ≤ 1000000000
  l : T.b.length ≤ 1000000000
section
variable {w : World} {T : Tk} {D : Option Addr} {dn dc : Nat} {A : Option Addr} {n c : Nat} {B : Option Addr} {m d : Nat} {F : Option Addr} {fn fc : Nat} {D' : Option Addr} {dn' dc' : Nat} {A' : Option Addr} {n' c' : Nat} {B' : Option Addr} {m' d' : Nat} {F' : Option Addr} {fn' fc' : Nat}
theorem packetsB_t {p : Pk} (h1 : By w A n p.opts) (h2 : By w B m p.body) (h1' : By w A' n' p.opts) (h2' : By w B' m' p.body)
    (hn : n ≤ 100000000000000) (hm : m ≤ 100000000000000) : Calls Tryd.prog 50 #[.agg (pb p A n c B m d).toArray, .agg (pb p A' n' c' B' m' d').toArray] w (Yes w) := by
  refine weftlaw6_packets.run ?_
  unfold weftlaw6_packets.s
  refine own_new (l := pb p A n c B m d) (Own.refl w) fun g1 w1 H => ?_
  refine own_new (l := pb p A' n' c' B' m' d') H fun g2 w2 H => ?_
  refine ld_head10 (H.bk 1 rfl) ?_
  refine ld_head10 (H.bk 0 rfl) ?_
  refine call_of (heads_t (h1.bel H.bel) (h1'.bel H.bel) hn) ?_
  rintro e w3 ⟨rfl, k3⟩
  replace H := H.call k3
  refine ⟨_, rfl, ifB (fun _ => ?_) (fun h => by cases h)⟩
  refine ⟨B, m, d, H.cell 1 10 rfl rfl, B', m', d', H.cell 0 10 rfl rfl, ?_⟩
  refine call_of (same_t (h2.bel H.bel) (h2'.bel H.bel) hm) ?_
  rintro e w4 ⟨rfl, k4⟩
  exact ⟨_, rfl, rfl, H.bel.trans k4⟩
theorem tk_msg {g t : Nat} (h : Bk w g t (tkv T D dn dc A n c B m d F fn fc)) : At w ⟨g, 0, none⟩ (mv T.q.typ T.q.code T.q.rest D dn dc) := at_mid [] (mid := mv T.q.typ T.q.code T.q.rest D dn dc) (post := hv T.p.tos T.p.id T.p.df T.p.mf T.p.off T.p.ttl T.p.proto T.p.src T.p.dst A n c ++ [.slice B m d, .slice F fn fc, .int .i64 T.e]) h rfl
theorem tk_pkt {g t : Nat} (h : Bk w g t (tkv T D dn dc A n c B m d F fn fc)) : At w ⟨g, 4, none⟩ (pb T.p A n c B m d) := at_mid (mv T.q.typ T.q.code T.q.rest D dn dc) (mid := pb T.p A n c B m d) (post := [.slice F fn fc, .int .i64 T.e]) h rfl
theorem agree_t (h : TkAt w T D dn dc A n c B m d F fn fc) (h' : TkAt w T D' dn' dc' A' n' c' B' m' d' F' fn' fc') (hs : T.Sm) : Calls Tryd.prog 17 #[.agg (tkv T D dn dc A n c B m d F fn fc).toArray, .agg (tkv T D' dn' dc' A' n' c' B' m' d' F' fn' fc').toArray] w (Yes w) := by
  have l1 := h.q.len
  have l2 := h.opts.len
  have l3 := h.body.len
  have l4 := h.b.len
  have s1 := hs.q
  have s2 := hs.o
  have s3 := hs.b
  have s4 := hs.l
  refine weftlaw6_agree.run ?_
  unfold weftlaw6_agree.s
  refine own_new (l := tkv T D dn dc A n c B m d F fn fc) (Own.refl w) fun g1 w1 H => ?_
  refine own_new (l := tkv T D' dn' dc' A' n' c' B' m' d' F' fn' fc') H fun g2 w2 H => ?_
  refine ⟨_, H.cell 1 16 rfl rfl, _, H.cell 0 16 rfl rfl, ifE (fun _ => ?_) (fun h => absurd rfl h)⟩
  refine ld_msgA (tk_msg (H.bk 1 rfl)) ?_
  refine ld_msgA (tk_msg (H.bk 0 rfl)) ?_
  refine call_of (controls_t (h.q.bel H.bel) (h'.q.bel H.bel) (by omega)) ?_
  rintro e w3 ⟨rfl, k3⟩
  replace H := H.call k3
  refine ⟨_, rfl, ifB (fun _ => ?_) (fun h => by cases h)⟩
  refine ld_pktA (tk_pkt (H.bk 1 rfl)) ?_
  refine ld_pktA (tk_pkt (H.bk 0 rfl)) ?_
  refine call_of (packetsB_t (p := T.p) (h.opts.bel H.bel) (h.body.bel H.bel) (h'.opts.bel H.bel) (h'.body.bel H.bel) (by omega) (by omega)) ?_
  rintro e w4 ⟨rfl, k4⟩
  replace H := H.call k4
  refine ⟨_, rfl, ifB (fun _ => ?_) (fun h => by cases h)⟩
  refine ⟨F, fn, fc, H.cell 1 15 rfl rfl, F', fn', fc', H.cell 0 15 rfl rfl, ?_⟩
  refine call_of (same_t (h.b.bel H.bel) (h'.b.bel H.bel) (by omega)) ?_
  rintro e w5 ⟨rfl, k5⟩
  exact ⟨_, rfl, rfl, H.bel.trans k5⟩
end

/-- A step is answered whose lists are one's own. -/
def RetO (w0 : World) (R : List Blk) (cs : List Lst) (e : Ending) (w' : World) : Prop := ∃ (o : Op6) (Z : Option Addr) (zn zc : Nat) (C : Option Addr) (cn cc : Nat) (A : Option Addr) (n c : Nat) (B : Option Addr) (m d : Nat) (os : List (Option Blk)),
  e = .returned (.agg (ov o Z zn zc C cn cc A n c B m d).toArray) ∧ OF w0 w' (Bls os ++ R) cs ∧ SLs os (lists6 o Z zn zc C cn cc A n c B m d) ∧ o.Fine ∧ o.Sm
/-- The bytes of list i become these. -/
def upd (o : Op6) (i : Nat) (l : List Int) : Op6 :=
  match i with
  | 0 => { o with b := l }
  | 1 => { o with q := { o.q with body := l } }
  | 2 => { o with p := { o.p with body := l } }
  | _ => { o with p := { o.p with opts := l } }
theorem upd_ov (o : Op6) (i : Nat) (l : List Int) (Z : Option Addr) (zn zc : Nat) (C : Option Addr) (cn cc : Nat) (A : Option Addr) (n c : Nat) (B : Option Addr) (m d : Nat) : ov (upd o i l) Z zn zc C cn cc A n c B m d = ov o Z zn zc C cn cc A n c B m d := by
  match i with
  | 0 => rfl
  | 1 => rfl
  | 2 => rfl
  | i + 3 => rfl
section
variable {w0 w : World} {R M : List Blk} {cs : List Lst} {os : List (Option Blk)} {o : Op6} {Z : Option Addr} {zn zc : Nat} {C : Option Addr} {cn cc : Nat} {A : Option Addr} {n c : Nat} {B : Option Addr} {m d : Nat} {g2 g4 : Nat} {z4 : List Value}
theorem other_j4 (H : OF w0 w ((g2, 41, ov o Z zn zc C cn cc A n c B m d) :: (M ++ ((g4, 41, z4) :: (Bls os ++ R)))) cs) (hz4 : z4.length = 21) (xo : SLs os (lists6 o Z zn zc C cn cc A n c B m d)) (ho : o.Fine) (hs : o.Sm) :
    weftlaw6_other.J4 g2 g4 w (RetO w0 R cs) := by
  unfold weftlaw6_other.J4; intros
  rw [weftlaw6_other.j4_eq]
  have H1 := H.perm ((List.perm_middle.cons _).trans (List.Perm.swap _ _ _))
  refine ⟨_, _, _, _, _, _, _, _, _, _, _, _, _, _, _, _, _, _, _, _, _, _, _, _, _, _, _, _, _, ⟨rfl, (H1.own.bk 1 rfl).at⟩, ?_⟩
  refine of_put 0 H1 rfl rfl (by rw [hz4]; exact Nat.le_refl 21) fun w1 H2 => ?_
  rw [splice_all _ _ (by rw [hz4]; rfl)] at H2
  replace H2 : OF w0 w1 ((g4, 41, ov o Z zn zc C cn cc A n c B m d) :: ((g2, 41, ov o Z zn zc C cn cc A n c B m d) :: (M ++ (Bls os ++ R)))) cs := H2
  refine ⟨_, _, _, _, _, _, _, _, _, _, _, _, _, _, _, _, _, _, _, _, _, _, _, _, _, _, _, _, _, ⟨rfl, (H2.own.bk 0 rfl).at⟩, ?_⟩
  exact ⟨o, Z, zn, zc, C, cn, cc, A, n, c, B, m, d, os, rfl, OF.less (L := M) H2.tail.tail, xo, ho, hs⟩
theorem wu16 (x : Int) : 0 ≤ IntKind.u16.wrap x ∧ IntKind.u16.wrap x ≤ 65535 := by rw [IntKind.wrap_u16]; omega
theorem wu8 (x : Int) : 0 ≤ IntKind.u8.wrap x ∧ IntKind.u8.wrap x ≤ 255 := by rw [IntKind.wrap_u8]; omega
theorem wu32 (x : Int) : 0 ≤ IntKind.u32.wrap x ∧ IntKind.u32.wrap x ≤ 4294967295 := by rw [IntKind.wrap_u32]; omega
theorem bset {l : List Int} (h : Bytes l) (j : Nat) {y : Int} (hy : 0 ≤ y ∧ y ≤ 255) : Bytes (l.set j y) := fun z hz => by
  rcases List.mem_or_eq_of_mem_set hz with hz | rfl
  · exact h z hz
  · exact hy
/-- A byte of one of the lists is written. -/
theorem xo_byte (H : OF w0 w (Bls os ++ R) cs) (xo : SLs os (lists6 o Z zn zc C cn cc A n c B m d)) (ho : o.Fine) (hs : o.Sm) {i : Nat} {x : LC} (hx : (lists6 o Z zn zc C cn cc A n c B m d)[i]? = some x) {j : Nat} (hj : j < x.n) :
    Bytes x.l ∧ By w x.A x.n x.l ∧ ∃ b, x.A = some ⟨b, 0, none⟩ ∧ ∀ {y : Int} {K : World → Prop}, 0 ≤ y ∧ y ≤ 255 →
      (∀ w1 (os' : List (Option Blk)), OF w0 w1 (Bls os' ++ R) cs → SLs os' (lists6 (upd o i (x.l.set j y)) Z zn zc C cn cc A n c B m d) → (upd o i (x.l.set j y)).Fine → (upd o i (x.l.set j y)).Sm → K w1) → MayC w ⟨b, j, none⟩ ∧ Let (w.setCell ⟨b, j, none⟩ (.int .u8 y)) K := by
  have hbx : Bytes x.l := by
    match i, hx with
    | 0, hx => simp only [lists6, List.getElem?_cons_zero, Option.some.injEq] at hx; subst hx; exact ho.b
    | 1, hx => simp only [lists6, List.getElem?_cons_succ, List.getElem?_cons_zero, Option.some.injEq] at hx; subst hx; exact ho.q.body
    | 2, hx => simp only [lists6, List.getElem?_cons_succ, List.getElem?_cons_zero, Option.some.injEq] at hx; subst hx; exact ho.p.body
    | 3, hx => simp only [lists6, List.getElem?_cons_succ, List.getElem?_cons_zero, Option.some.injEq] at hx; subst hx; exact ho.p.opts
    | i + 4, hx => simp at hx
  refine ⟨hbx, (xo.by H.own hx).1, ?_⟩
  obtain ⟨b, hb, hw⟩ := sls_byte H xo hx hj
  refine ⟨b, hb, fun {y K} hy hK => hw fun w1 os' H2 k2' => ?_⟩
  have hset := bset hbx j hy
  have lset : ∀ {N : Nat}, x.l.length ≤ N → (x.l.set j y).length ≤ N := fun h => by rw [List.length_set]; exact h
  match i, hx with
  | 0, hx =>
    simp only [lists6, List.getElem?_cons_zero, Option.some.injEq] at hx
    subst hx
    exact hK w1 os' H2 k2' ⟨hset, ho.q, ho.p, ho.t, ho.cd, ho.src⟩ ⟨lset hs.b, hs.q, hs.lo, hs.lb⟩
  | 1, hx =>
    simp only [lists6, List.getElem?_cons_succ, List.getElem?_cons_zero, Option.some.injEq] at hx
    subst hx
    exact hK w1 os' H2 k2' ⟨ho.b, ⟨ho.q.typ, ho.q.code, ho.q.rest, hset, lset ho.q.lb⟩, ho.p, ho.t, ho.cd, ho.src⟩ ⟨hs.b, lset hs.q, hs.lo, hs.lb⟩
  | 2, hx =>
    simp only [lists6, List.getElem?_cons_succ, List.getElem?_cons_zero, Option.some.injEq] at hx
    subst hx
    exact hK w1 os' H2 k2' ⟨ho.b, ho.q, ⟨ho.p.tos, ho.p.id, ho.p.off, ho.p.ttl, ho.p.proto, ho.p.src, ho.p.dst, ho.p.opts, hset, ho.p.lo, lset ho.p.lb⟩, ho.t, ho.cd, ho.src⟩ ⟨hs.b, hs.q, hs.lo, lset hs.lb⟩
  | 3, hx =>
    simp only [lists6, List.getElem?_cons_succ, List.getElem?_cons_zero, Option.some.injEq] at hx
    subst hx
    exact hK w1 os' H2 k2' ⟨ho.b, ho.q, ⟨ho.p.tos, ho.p.id, ho.p.off, ho.p.ttl, ho.p.proto, ho.p.src, ho.p.dst, hset, ho.p.body, lset ho.p.lo, ho.p.lb⟩, ho.t, ho.cd, ho.src⟩ ⟨hs.b, hs.q, lset hs.lo, hs.lb⟩
  | i + 4, hx => simp at hx
theorem pmv {α : Type} (a b : α) (M X R : List α) : (a :: (M ++ (b :: (X ++ R)))).Perm (X ++ (a :: (M ++ (b :: R)))) :=
  ((((List.perm_middle (l₁ := X) (a := b) (l₂ := R)).symm.append_left M).trans (List.perm_append_comm_assoc M X _)).cons a).trans List.perm_middle.symm
theorem other_j3 (H : OF w0 w ((g2, 41, ov o Z zn zc C cn cc A n c B m d) :: (M ++ ((g4, 41, z4) :: (Bls os ++ R)))) cs) (hz4 : z4.length = 21) (xo : SLs os (lists6 o Z zn zc C cn cc A n c B m d)) (ho : o.Fine) (hs : o.Sm) {k how : Int} (hk : 0 ≤ k) (hk2 : k ≤ 9223372036854775807)
    {oA : Option Blk} (hM : M = oA.toList) {P : Option Addr} {p : Nat} {fs : List LC} (sa : SV oA P fs.length p (fs.map LC.val)) (hf : ∀ x ∈ fs, 0 < x.n ∧ ∃ i : Nat, (lists6 o Z zn zc C cn cc A n c B m d)[i]? = some x) (hl : fs.length ≤ 4)
    {b : Bool} (hb : b = true → 0 < fs.length) : weftlaw6_other.J3 k g2 g4 how P fs.length p b w (RetO w0 R cs) := by
  unfold weftlaw6_other.J3; intros
  rw [weftlaw6_other.j3_eq]
  refine ifB (fun hbt => ?_) (fun _ => ?_)
  · have hp := hb hbt
    refine ⟨by omega, ?_⟩
    refine let_as (k % (fs.length : Int)) (tm hk) ?_
    have i0 := Int.emod_nonneg k (b := (fs.length : Int)) (by omega)
    have i1 := Int.emod_lt_of_pos k (b := (fs.length : Int)) (by omega)
    obtain ⟨idx, hidx⟩ : ∃ idx : Nat, k % (fs.length : Int) = (idx : Int) := ⟨(k % (fs.length : Int)).toNat, by omega⟩
    rw [hidx] at i0 i1 ⊢
    have hil : idx < fs.length := by omega
    have hx : fs[idx]? = some fs[idx] := List.getElem?_eq_getElem hil
    obtain ⟨xn, i, hxi⟩ := hf fs[idx] (List.getElem_mem hil)
    generalize fs[idx] = x at hx xn hxi
    have hsl := sa.1
    rcases sa.2 with ⟨_, _, _, e⟩ | ⟨b', pad, rfl, rfl, hc⟩
    · rw [e] at hsl
      simp at hsl
      omega
    subst hM
    refine ⟨_, rfl, ⟨by omega, by omega⟩, x.A, x.n, x.c, ?_, ?_⟩
    · rw [Int.toNat_natCast, add_blk, Nat.zero_add]
      refine H.own.cell 1 idx rfl ?_
      rw [List.getElem?_append_left (by rw [List.length_map]; omega), List.getElem?_map, hx]
      rfl
    refine ⟨by omega, ?_⟩
    have d0 : 0 ≤ k / (fs.length : Int) := Int.ediv_nonneg hk (by omega)
    have d1 : k / (fs.length : Int) ≤ k := Int.ediv_le_self _ hk
    refine let_as (k / (fs.length : Int)) (by rw [td hk, w64 (by omega) (by omega)]) ?_
    refine ⟨by omega, ?_⟩
    refine let_as (k / (fs.length : Int) % (x.n : Int)) (tm d0) ?_
    have j0 := Int.emod_nonneg (k / (fs.length : Int)) (b := (x.n : Int)) (by omega)
    have j1 := Int.emod_lt_of_pos (k / (fs.length : Int)) (b := (x.n : Int)) (by omega)
    obtain ⟨j, hj⟩ : ∃ j : Nat, k / (fs.length : Int) % (x.n : Int) = (j : Int) := ⟨(k / (fs.length : Int) % (x.n : Int)).toNat, by omega⟩
    rw [hj] at j0 j1 ⊢
    have H1 : OF w0 w (Bls os ++ ((g2, 41, ov o Z zn zc C cn cc A n c B m d) :: ((some (b', 30, fs.map LC.val ++ pad)).toList ++ ((g4, 41, z4) :: R)))) cs := H.perm (pmv _ _ _ _ _)
    obtain ⟨hbx, hby, b2, hA, hw⟩ := xo_byte H1 xo ho hs hxi (j := j) (by omega)
    refine hby.rd (by omega) (by omega) fun _ => ?_
    rw [Int.toNat_natCast]
    refine let_as (k % 255) (tm hk) ?_
    refine let_as (1 + k % 255) (w64 (by omega) (by omega)) ?_
    refine let_as (1 + k % 255) (w8 (by omega) (by omega)) ?_
    refine let_id ?_
    refine ⟨_, hA, ⟨by omega, by omega⟩, ?_⟩
    rw [add_blk, Nat.zero_add]
    refine hw (xor8 (hbx.getD j) (by omega)) fun w1 os' H2 xo' ho' hs' => ?_
    have H3 : OF w0 w1 ((g2, 41, ov o Z zn zc C cn cc A n c B m d) :: ((some (b', 30, fs.map LC.val ++ pad)).toList ++ ((g4, 41, z4) :: (Bls os' ++ R)))) cs := H2.perm (pmv _ _ _ _ _).symm
    rw [← upd_ov o i (x.l.set j (Go.bits .xor .u8 (x.l.getD j 0) (1 + k % 255)))] at H3
    have kk := other_j4 (M := (some (b', 30, fs.map LC.val ++ pad)).toList) H3 hz4 xo' ho' hs'
    exact ⟨by with_reducible apply kk⟩
  refine ifE (fun _ => ?_) (fun _ => ?_)
  · refine ⟨_, H.own.cell 0 19 rfl rfl, ?_⟩
    refine let_id (let_id (let_id ?_))
    refine of_set 0 H rfl (Nat.lt_of_lt_of_le (by decide : 19 < 21) (Nat.le_refl 21)) fun w1 H1 => ?_
    refine ⟨_, H1.own.cell 0 4 rfl rfl, ?_⟩
    refine let_id (let_id (let_id ?_))
    refine of_set 0 H1 rfl (Nat.lt_of_lt_of_le (by decide : 4 < 21) (Nat.le_refl 21)) fun w2 H2 => ?_
    have kk := other_j4 (o := { o with x := IntKind.i64.wrap (IntKind.i64.wrap (o.x + Int.tmod k 3) - 1), q := { o.q with rest := IntKind.u32.wrap (o.q.rest + IntKind.u32.wrap (Int.tmod k 3)) } }) (M := M) H2 hz4 xo
      ⟨ho.b, ⟨ho.q.typ, ho.q.code, wu32 _, ho.q.body, ho.q.lb⟩, ho.p, ho.t, ho.cd, ho.src⟩ ⟨hs.b, hs.q, hs.lo, hs.lb⟩
    exact ⟨by with_reducible apply kk⟩
  refine ifE (fun _ => ?_) (fun _ => ?_)
  · refine ⟨_, H.own.cell 0 20 rfl rfl, ?_⟩
    refine let_id (let_id (let_id ?_))
    refine of_set 0 H rfl (Nat.lt_of_lt_of_le (by decide : 20 < 21) (Nat.le_refl 21)) fun w1 H1 => ?_
    refine ⟨_, H1.own.cell 0 7 rfl rfl, ?_⟩
    refine let_id (let_id ?_)
    refine of_set 0 H1 rfl (Nat.lt_of_lt_of_le (by decide : 7 < 21) (Nat.le_refl 21)) fun w2 H2 => ?_
    have kk := other_j4 (o := { o with src := IntKind.u32.wrap (o.src + IntKind.u32.wrap (Int.tmod k 3)), p := { o.p with id := IntKind.u16.wrap (o.p.id + IntKind.u16.wrap k) } }) (M := M) H2 hz4 xo
      ⟨ho.b, ho.q, ⟨ho.p.tos, wu16 _, ho.p.off, ho.p.ttl, ho.p.proto, ho.p.src, ho.p.dst, ho.p.opts, ho.p.body, ho.p.lo, ho.p.lb⟩, ho.t, ho.cd, wu32 _⟩ ⟨hs.b, hs.q, hs.lo, hs.lb⟩
    exact ⟨by with_reducible apply kk⟩
  refine ifE (fun _ => ?_) (fun _ => ?_)
  · refine ⟨_, H.own.cell 0 18 rfl rfl, ?_⟩
    refine let_id (let_id (let_id ?_))
    refine of_set 0 H rfl (Nat.lt_of_lt_of_le (by decide : 18 < 21) (Nat.le_refl 21)) fun w1 H1 => ?_
    refine ⟨_, H1.own.cell 0 3 rfl rfl, ?_⟩
    refine let_id (let_id (let_id ?_))
    refine of_set 0 H1 rfl (Nat.lt_of_lt_of_le (by decide : 3 < 21) (Nat.le_refl 21)) fun w2 H2 => ?_
    have kk := other_j4 (o := { o with cd := IntKind.u8.wrap (o.cd + IntKind.u8.wrap (Int.tmod k 3)), q := { o.q with code := IntKind.u8.wrap (o.q.code + IntKind.u8.wrap (Int.tmod k 3)) } }) (M := M) H2 hz4 xo
      ⟨ho.b, ⟨ho.q.typ, wu8 _, ho.q.rest, ho.q.body, ho.q.lb⟩, ho.p, ho.t, wu8 _, ho.src⟩ ⟨hs.b, hs.q, hs.lo, hs.lb⟩
    exact ⟨by with_reducible apply kk⟩
  refine let_id (let_id ?_)
  refine of_set 0 H rfl (Nat.lt_of_lt_of_le (by decide : 0 < 21) (Nat.le_refl 21)) fun w1 H1 => ?_
  have kk := other_j4 (o := { o with k := IntKind.i64.wrap (1 + Int.tmod k 5) }) (M := M) H1 hz4 xo ⟨ho.b, ho.q, ho.p, ho.t, ho.cd, ho.src⟩ ⟨hs.b, hs.q, hs.lo, hs.lb⟩
  exact ⟨by with_reducible apply kk⟩
theorem other_l1 (hz4 : z4.length = 21) (xo : SLs os (lists6 o Z zn zc C cn cc A n c B m d)) (ho : o.Fine) (hs : o.Sm) {k how : Int} (hk : 0 ≤ k) (hk2 : k ≤ 9223372036854775807) : ∀ (q i : Nat) (wa : World) (oA : Option Blk) (P : Option Addr) (p : Nat) (fs : List LC), 4 - i < q → i ≤ 4 →
    OF w0 wa ((g2, 41, ov o Z zn zc C cn cc A n c B m d) :: (oA.toList ++ ((g4, 41, z4) :: (Bls os ++ R)))) cs → SV oA P fs.length p (fs.map LC.val) →
    (∀ x ∈ fs, 0 < x.n ∧ ∃ i : Nat, (lists6 o Z zn zc C cn cc A n c B m d)[i]? = some x) → fs.length ≤ i →
    weftlaw6_other.L1 q k g2 g4 how P fs.length p (i : Int) wa (RetO w0 R cs) := by
  intro q
  induction q with
  | zero => intro i wa oA P p fs h; omega
  | succ q ih =>
    intro i wa oA P p fs hq hi H sa hf hfl
    unfold weftlaw6_other.L1; intros
    rw [weftlaw6_other.l1_eq]
    refine ifD (fun h1 => ?_) (fun h1 => ?_)
    · have hi2 : i < 4 := by omega
      refine ⟨_, _, _, H.own.cell 0 1 rfl rfl, _, _, _, H.own.cell 0 5 rfl rfl, _, _, _, H.own.cell 0 16 rfl rfl, _, _, _, H.own.cell 0 15 rfl rfl, ⟨by omega, by omega⟩, ?_⟩
      rw [Int.toNat_natCast]
      obtain ⟨x, hx, hv⟩ : ∃ x : LC, (lists6 o Z zn zc C cn cc A n c B m d)[i]? = some x ∧ ([.slice Z zn zc, .slice C cn cc, .slice B m d, .slice A n c] : List Value)[i]? = some (.slice x.A x.n x.c) := by
        match i, hi2 with
        | 0, _ => exact ⟨_, rfl, rfl⟩
        | 1, _ => exact ⟨_, rfl, rfl⟩
        | 2, _ => exact ⟨_, rfl, rfl⟩
        | 3, _ => exact ⟨_, rfl, rfl⟩
      refine ⟨x.A, x.n, x.c, hv, ?_⟩
      refine ifD (fun h2 => ?_) (fun h2 => ?_)
      · refine let_as wa.heap.size rfl (let_as (wa.alloc (.cells [Value.slice x.A x.n x.c].toArray 30)) rfl ?_)
        refine app_at (H.call ((Bel.refl wa).alloc _)) sa (v := .slice x.A x.n x.c) rfl (Bk.new wa _ _).at (by omega) fun oA' A' c' wb H' sa' => ?_
        refine let_as ((i + 1 : Nat) : Int) (by rw [w64 (by omega) (by omega)]; omega) ?_
        have k0 := ih (i + 1) wb oA' A' c' (fs ++ [x]) (by omega) (by omega) H' (by rw [List.length_append, List.map_append]; exact sa') (fun y hy => by
          rcases List.mem_append.1 hy with hy | hy
          · exact hf y hy
          · rw [List.mem_singleton.1 hy]; exact ⟨by omega, i, hx⟩) (by rw [List.length_append]; simp; omega)
        rw [List.length_append] at k0
        have kk : weftlaw6_other.L1 q k g2 g4 how A' (fs.length + 1) c' ((i + 1 : Nat) : Int) wb (RetO w0 R cs) := k0
        with_reducible apply kk
      · refine let_as ((i + 1 : Nat) : Int) (by rw [w64 (by omega) (by omega)]; omega) ?_
        have kk := ih (i + 1) wa oA P p fs (by omega) (by omega) H sa hf (by omega)
        with_reducible apply kk
    · refine ifD (fun h2 => ?_) (fun h2 => ?_)
      · have kk := other_j3 H hz4 xo ho hs hk hk2 rfl sa hf (by omega) (how := how) (b := decide ((fs.length : Int) > 0)) (fun h => by have := of_decide_eq_true h; omega)
        exact ⟨by with_reducible apply kk⟩
      · have kk := other_j3 H hz4 xo ho hs hk hk2 rfl sa hf (by omega) (how := how) (b := false) (fun h => by cases h)
        exact ⟨by with_reducible apply kk⟩
end
end Go.Proofs.YtchdcdmdbjkihaaDoorS
