/- Package weftlaw3: untouched, Ip4Fresh.
   Conditions: the script is as a row's argument is. -/
import Derived.Test.YtchdcdmdbjkihaaSKeepF
import Derived.Test.YtchdcdmdbjkihaaSBui3
import Derived.Test.YtchdcdmdbjkihaaSSum3
namespace Go.Proofs.YtchdcdmdbjkihaaS
open Go Go.RowKit Go.Proofs Go.Proofs.YtchdcdmdbjkihaaX
set_option maxRecDepth 100000
set_option linter.unusedVariables false
set_option linter.unusedSectionVars false
set_option linter.unusedSimpArgs false

section
variable {w0 : World} {X : Option Addr} {xn xc : Nat}
theorem At.bel3 {w w' : World} {a : Addr} {l : List Value} (h : At w a l) (k : Bel w w') : At w' a l := fun j u hu => k.cellb (h j u hu)
set_option maxHeartbeats 1000000 in
theorem unt_l2 {m0 i : Nat} (hi : i ≤ 2000000) {o : Op3} {Z : Option Addr} {zn zc : Nat} {Y : Option Addr} {yn yc : Nat} {A : Option Addr} {n c : Nat} {B : Option Addr} {m d : Nat} (ho : o.Fine) (hx : OpAt w0 o Z zn zc Y yn yc A n c B m d) {g5 : Nat}
    (next : ∀ (w : World) (oA : Option Blk) (AL : Option Addr) (k cL : Nat) (P : List Blk) (vs : List Rt), Got w0 w [] oA AL k cL P vs → k ≤ 4 * (i + 1) → weftlaw3_untouched.L1 m0 X xn xc AL k cL ((i + 1 : Nat) : Int) w (YesB w0)) :
    ∀ (q j : Nat) (w : World) (oA : Option Blk) (AL : Option Addr) (k cL : Nat) (P : List Blk) (vs : List Rt), 2 - j < q → j ≤ 2 → Got w0 w [(g5, 39, opv o Z zn zc Y yn yc A n c B m d)] oA AL k cL P vs → k ≤ 4 * i + 2 * j →
    weftlaw3_untouched.L2 m0 q X xn xc AL k cL (i : Int) g5 (j : Int) w (YesB w0) := by
  intro q
  induction q with
  | zero => intro j w oA AL k cL P vs h; omega
  | succ q ih =>
    intro j w oA AL k cL P vs hq hj G hk
    unfold weftlaw3_untouched.L2; intros
    rw [weftlaw3_untouched.l2_eq]
    have H := G.1
    have hR := (OF.less (L := P) (OF.less (L := oA.toList) H)).own
    have l1 := hx.b.len
    have s1 := ho.lb
    refine ifD (fun h1 => ?_) (fun h1 => ?_)
    · refine ⟨_, hR.cell 0 0 rfl rfl, ?_⟩
      have again : ∀ (w : World) (oA : Option Blk) (AL : Option Addr) (k cL : Nat) (P : List Blk) (vs : List Rt), Got w0 w [(g5, 39, opv o Z zn zc Y yn yc A n c B m d)] oA AL k cL P vs → k ≤ 4 * i + 2 * (j + 1) → weftlaw3_untouched.L2 m0 q X xn xc AL k cL (i : Int) g5 ((j + 1 : Nat) : Int) w (YesB w0) := fun w oA AL k cL P vs G hk => ih (j + 1) w oA AL k cL P vs (by omega) (by omega) G hk
      have ej : IntKind.i64.wrap ((j : Int) + 1) = ((j + 1 : Nat) : Int) := by rw [w64 (by omega) (by omega)]; omega
      refine ifE (fun _ => ?_) (fun _ => ?_)
      · refine ⟨_, _, _, hR.cell 0 1 rfl rfl, ?_⟩
        refine call_of (parse_a3 (hx.b.bel hR.bel) ho.b hx.cb (by omega)) ?_
        rintro e w1 ⟨k1, A', n', c', B', m', d', rfl, _, t⟩
        obtain ⟨P', H2, p1, p2, p3, p4, p5⟩ := got_two G k1 t.r t.a t.b t.nc t.md t.n9 t.m9
        refine ⟨_, _, _, _, _, _, _, _, _, _, _, _, _, _, _, _, rfl, ?_⟩
        refine of_mk (pb pz none 0 0 none 0 0) H2 rfl rfl fun g10 w2 H3 => ?_
        refine ⟨_, _, _, H3.own.cell 0 9 rfl rfl, _, _, _, H3.own.cell 0 10 rfl rfl, ?_⟩
        refine got_app (j := 2) [⟨A', n', c'⟩, ⟨B', m', d'⟩] rfl (by omega) (got_push H3) G.2.1 G.2.2.1 (in2 p1 p2 p3) (pw2 G.2.2.2.2 p4 p5 t.r.apt) (by omega) fun gg oA2 AL2 cL2 w3 G2 => ?_
        refine let_as _ ej ?_
        have kk := again w3 oA2 AL2 (k + 2) cL2 P' _ G2.drop (by omega)
        with_reducible apply kk
      refine ifE (fun _ => ?_) (fun _ => ?_)
      · refine ⟨_, _, _, hR.cell 0 1 rfl rfl, ?_⟩
        refine call_of (peek_a3 (hx.b.bel hR.bel) ho.b hx.cb (by omega)) ?_
        rintro e w1 ⟨k1, A', n', c', B', m', d', rfl, _, t⟩
        obtain ⟨P', H2, p1, p2, p3, p4, p5⟩ := got_two G k1 t.r t.a t.b t.nc t.md t.n9 t.m9
        refine ⟨_, _, _, _, _, _, _, _, _, _, _, _, _, _, _, _, rfl, ?_⟩
        refine of_mk hz H2 rfl rfl fun g10 w2 H3 => ?_
        refine ⟨_, _, _, H3.own.cell 0 9 rfl rfl, ?_⟩
        refine got_app (j := 2) [⟨A', n', c'⟩, ⟨B', m', d'⟩] rfl (by omega) (got_push H3) G.2.1 G.2.2.1 (in2 p1 p2 p3) (pw2 G.2.2.2.2 p4 p5 t.r.apt) (by omega) fun gg oA2 AL2 cL2 w3 G2 => ?_
        refine let_as _ ej ?_
        have kk := again w3 oA2 AL2 (k + 2) cL2 P' _ G2.drop (by omega)
        with_reducible apply kk
      refine ifE (fun _ => ?_) (fun _ => ?_)
      · refine ⟨_, _, _, hR.cell 0 1 rfl rfl, ?_⟩
        refine call_of (Age4_c (hx.b.bel hR.bel) ho.b hx.cb (by omega)) ?_
        intro e w1 he
        have hlen := ageL_len ho.b (by omega)
        obtain ⟨k1, A', c', rfl, _, t⟩ := he.two (by omega)
        obtain ⟨P', H2, p1, p2, p3, p4, p5⟩ := got_two G k1 t.r t.a t.b t.nc t.md t.n9 t.m9
        refine ⟨_, _, _, _, rfl, ?_⟩
        refine got_app (j := 1) [⟨A', _, c'⟩] rfl (by omega) H2 G.2.1 G.2.2.1 (in1 p1 p2) (pw1 G.2.2.2.2 p4) (by omega) fun gg oA2 AL2 cL2 w3 G2 => ?_
        refine let_as _ ej ?_
        have kk := again w3 oA2 AL2 (k + 1) cL2 P' _ G2 (by omega)
        with_reducible apply kk
      refine ifE (fun _ => ?_) (fun _ => ?_)
      · refine ⟨_, _, _, hR.cell 0 1 rfl rfl, ?_⟩
        refine call_of (Copied4_c (hx.b.bel hR.bel) ho.b hx.cb (by omega)) ?_
        intro e w1 he
        have hlen := copL_len (o := o.b)
        obtain ⟨k1, A', c', rfl, _, t⟩ := he.two (by omega)
        obtain ⟨P', H2, p1, p2, p3, p4, p5⟩ := got_two G k1 t.r t.a t.b t.nc t.md t.n9 t.m9
        refine ⟨_, _, _, _, rfl, ?_⟩
        refine got_app (j := 1) [⟨A', _, c'⟩] rfl (by omega) H2 G.2.1 G.2.2.1 (in1 p1 p2) (pw1 G.2.2.2.2 p4) (by omega) fun gg oA2 AL2 cL2 w3 G2 => ?_
        refine let_as _ ej ?_
        have kk := again w3 oA2 AL2 (k + 1) cL2 P' _ G2 (by omega)
        with_reducible apply kk
      refine ifE (fun _ => ?_) (fun _ => ?_)
      · refine ld_pktA (opv_pkt (hR.bk 0 rfl)) ?_
        refine call_of (BuildB_c ho.p (hx.p.opts.bel hR.bel) (hx.p.body.bel hR.bel) hx.p.co) ?_
        intro e w1 he
        have hlen := bldL_len (p := o.p)
        obtain ⟨k1, A', c', rfl, _, t⟩ := he.two (by omega)
        obtain ⟨P', H2, p1, p2, p3, p4, p5⟩ := got_two G k1 t.r t.a t.b t.nc t.md t.n9 t.m9
        refine ⟨_, _, _, _, rfl, ?_⟩
        refine got_app (j := 1) [⟨A', _, c'⟩] rfl (by omega) H2 G.2.1 G.2.2.1 (in1 p1 p2) (pw1 G.2.2.2.2 p4) (by omega) fun gg oA2 AL2 cL2 w3 G2 => ?_
        refine let_as _ ej ?_
        have kk := again w3 oA2 AL2 (k + 1) cL2 P' _ G2 (by omega)
        with_reducible apply kk
      refine let_as _ ej ?_
      have kk := again w oA AL k cL P vs G (by omega)
      with_reducible apply kk
    · refine let_as ((i + 1 : Nat) : Int) (by rw [w64 (by omega) (by omega)]; omega) ?_
      have kk := next w oA AL k cL P vs G.drop (by omega)
      with_reducible apply kk
theorem unt_l3 {g : Nat} {AL : Option Addr} {k cL : Nat} {oA : Option Blk} {vs : List Rt} (qA : RV 30 1 oA AL k cL (vs.map Rt.v)) (hk : vs.length = k) (hk2 : k ≤ 100000000) : ∀ (q i : Nat) (w : World), k - i < q → i ≤ k → Wrt w0 w g (oA.toList ++ []) (vs.drop i) (2000000000 * (i : Int)) →
    weftlaw3_untouched.L3 q AL k cL g (i : Int) w (YesB w0) := by
  intro q
  induction q with
  | zero => intro i w h; omega
  | succ q ih =>
    intro i w hq hi H
    unfold weftlaw3_untouched.L3; intros
    rw [weftlaw3_untouched.l3_eq]
    have hown : Own w0 w (oA.toList ++ []) := by
      obtain ⟨AL, nL, cL, AM, nM, cM, oL, oM, es, z, cs, P, H, _⟩ := H
      exact (OF.less (L := P) (OF.less (L := oM.toList) (OF.less (L := oL.toList) H.tail))).own
    refine ifD (fun h1 => ?_) (fun h1 => ?_)
    · have hi2 : i < vs.length := by omega
      obtain ⟨a, ha, r⟩ := rv_cell qA (i := i) (by omega) (v := vs[i].v) (by rw [List.getElem?_map, List.getElem?_eq_getElem hi2]; rfl)
      refine ⟨a, ha, ⟨by omega, by omega⟩, _, _, _, by rw [Int.toNat_natCast]; exact r hown, ?_⟩
      rw [List.drop_eq_getElem_cons hi2] at H
      refine call_of (wrt_keep H (by omega)) ?_
      rintro e w1 ⟨rfl, H1⟩
      refine ⟨rfl, ?_⟩
      refine let_as ((i + 1 : Nat) : Int) (by rw [w64 (by omega) (by omega)]; omega) ?_
      have e1 : 2000000000 * (i : Int) + 2000000000 = 2000000000 * ((i + 1 : Nat) : Int) := by omega
      rw [e1] at H1
      have kk := ih (i + 1) w1 (by omega) (by omega) H1
      with_reducible apply kk
    · have e0 : vs.drop i = [] := List.drop_eq_nil_of_le (by omega)
      rw [e0] at H
      refine call_of (wrt_whole H) ?_
      rintro e w1 ⟨rfl, k1⟩
      exact ⟨_, rfl, rfl, hown.bel.trans k1⟩
theorem unt_l1 (hS : ScrS w0 X xn) (hn : xn ≤ 1048576) : ∀ (q i : Nat) (w : World) (oA : Option Blk) (AL : Option Addr) (k cL : Nat) (P : List Blk) (vs : List Rt), xn - i < q → i ≤ xn → Got w0 w [] oA AL k cL P vs → k ≤ 4 * i → weftlaw3_untouched.L1 q X xn xc AL k cL (i : Int) w (YesB w0) := by
  intro q
  induction q with
  | zero => intro i w oA AL k cL P vs h; omega
  | succ q ih =>
    intro i w oA AL k cL P vs hq hi G hk
    unfold weftlaw3_untouched.L1; intros
    rw [weftlaw3_untouched.l1_eq]
    have H := G.1
    refine ifD (fun h1 => ?_) (fun h1 => ?_)
    · obtain ⟨a, ea, hc⟩ := hS (by omega)
      obtain ⟨o, Z, zn, zc, Y, yn, yc, A, n, c, B, m, d, hat, hof, hoa, hsm1, hsm2⟩ := hc i (by omega)
      refine ⟨a, ea, ⟨by omega, by omega⟩, ?_⟩
      rw [Int.toNat_natCast]
      refine ⟨_, _, _, _, _, _, _, _, _, _, _, _, _, _, _, _, _, _, _, _, _, _, _, _, _, ⟨rfl, At.bel3 hat H.own.bel⟩, ?_⟩
      refine of_mk (opv zop none 0 0 none 0 0 none 0 0 none 0 0) H rfl rfl fun g5 w1 H1 => ?_
      obtain ⟨qq, hqq⟩ : ∃ qq : Nat, qq = 3 := ⟨3, rfl⟩
      refine ⟨qq, ?_⟩
      have kk : weftlaw3_untouched.L2 q qq X xn xc AL k cL (i : Int) g5 0 w1 (YesB w0) := unt_l2 (by omega) hof hoa (fun w oA AL k cL P vs G hk => ih (i + 1) w oA AL k cL P vs (by omega) (by omega) G hk) qq 0 w1 oA AL k cL P vs (by omega) (by omega) ⟨got_push H1, G.2⟩ (by omega)
      with_reducible apply kk
    · refine let_as w.heap.size rfl (let_as (w.alloc (.cells (bkv none 0 0 none 0 0 0).toArray 29)) rfl ?_)
      have H1 := H.new 29 (bkv none 0 0 none 0 0 0)
      generalize hgg : w.heap.size = g27 at H1 ⊢
      generalize w.alloc (.cells (bkv none 0 0 none 0 0 0).toArray 29) = w1 at H1 ⊢
      refine ⟨k + 1, ?_⟩
      have W : Wrt w0 w1 g27 (oA.toList ++ []) (vs.drop 0) (2000000000 * ((0 : Nat) : Int)) := ⟨none, 0, 0, none, 0, 0, none, none, [], 0, [], P, H1.perm (List.Perm.cons _ (List.perm_append_comm_assoc _ _ _)), RV.none, RV.none, rfl, rfl, (fun x hx => by cases hx), G.2.2.2.1, G.2.2.2.2, by decide, by decide, by decide⟩
      have kk : weftlaw3_untouched.L3 (k + 1) AL k cL g27 0 w1 (YesB w0) := unt_l3 G.2.1 G.2.2.1 (by omega) (k + 1) 0 w1 (by omega) (by omega) W
      with_reducible apply kk
theorem untouched_t (hS : ScrS w0 X xn) (hn : xn ≤ 1048576) : Calls Try.prog 14 #[.slice X xn xc] w0 (YesB w0) := by
  refine weftlaw3_untouched.run ?_
  unfold weftlaw3_untouched.s
  refine ⟨xn + 1, ?_⟩
  have kk : weftlaw3_untouched.L1 (xn + 1) X xn xc none 0 0 0 w0 (YesB w0) := unt_l1 hS hn (xn + 1) 0 w0 none none 0 0 [] [] (by omega) (by omega) ⟨own_ofS (Own.refl w0), RV.none, rfl, (fun x hx => by cases hx), List.Pairwise.nil⟩ (by omega)
  with_reducible apply kk
theorem Fresh_j4 (hn : xn ≤ 1048576) {g m0 i : Nat} (hi : i < xn) (next : ∀ w, BkAt w0 w g [] (4000000000 * ((i + 1 : Nat) : Int)) → weftlaw3_Ip4Fresh.L1 m0 X xn xc g ((i + 1 : Nat) : Int) w (Yes w0)) {w : World} (H : BkAt w0 w g [] (4000000000 * ((i + 1 : Nat) : Int))) : weftlaw3_Ip4Fresh.J4 m0 X xn xc g (i : Int) w (Yes w0) := by
  unfold weftlaw3_Ip4Fresh.J4; intros
  rw [weftlaw3_Ip4Fresh.j4_eq]
  refine let_as ((i : Int) % 64) (tm (by omega)) ?_
  refine ifE (fun _ => ?_) (fun _ => ?_)
  · refine call_of (bk_whole H) ?_
    rintro e w2 ⟨rfl, k2⟩
    refine ⟨_, rfl, ifNot (fun h => by cases h) (fun _ => ?_)⟩
    refine let_as ((i + 1 : Nat) : Int) (by rw [w64 (by omega) (by omega)]; omega) ?_
    have kk := next w2 (H.call k2)
    with_reducible apply kk
  · refine let_as ((i + 1 : Nat) : Int) (by rw [w64 (by omega) (by omega)]; omega) ?_
    have kk := next w H
    with_reducible apply kk
theorem Fresh_j2 (hn : xn ≤ 1048576) {g m0 i : Nat} (hi : i < xn) {o : Op3} {Z : Option Addr} {zn zc : Nat} {Y : Option Addr} {yn yc : Nat} {A : Option Addr} {n c : Nat} {B : Option Addr} {m d : Nat} (ho : o.Fine) (hx : OpAt w0 o Z zn zc Y yn yc A n c B m d) {g5 : Nat} (next : ∀ w, BkAt w0 w g [] (4000000000 * ((i + 1 : Nat) : Int)) → weftlaw3_Ip4Fresh.L1 m0 X xn xc g ((i + 1 : Nat) : Int) w (Yes w0)) {w : World} (H : BkAt w0 w g [(g5, 39, opv o Z zn zc Y yn yc A n c B m d)] (4000000000 * ((i + 1 : Nat) : Int))) : weftlaw3_Ip4Fresh.J2 m0 X xn xc g (i : Int) g5 w (Yes w0) := by
  unfold weftlaw3_Ip4Fresh.J2; intros
  rw [weftlaw3_Ip4Fresh.j2_eq]
  refine ⟨_, H.own.cell 0 0 rfl rfl, ?_⟩
  refine ifE (fun _ => ?_) (fun _ => ?_)
  · refine ⟨_, _, _, _, _, _, _, _, _, _, _, _, _, _, _, _, _, _, _, _, _, _, _, _, _, ⟨rfl, (H.own.bk 0 rfl).at⟩, ?_⟩
    refine call_of (summed_t ho (hx.bel H.own.bel)) ?_
    rintro e w2 ⟨rfl, k2⟩
    refine ⟨_, rfl, ifNot (fun h => by cases h) (fun _ => ?_)⟩
    have kk := Fresh_j4 (X := X) (xc := xc) hn hi next (Pend.tail (H.call k2))
    exact ⟨by with_reducible apply kk⟩
  · have kk := Fresh_j4 (X := X) (xc := xc) hn hi next (Pend.tail H)
    exact ⟨by with_reducible apply kk⟩
theorem Fresh_j3 (hn : xn ≤ 1048576) {g m0 i : Nat} (hi : i < xn) {o : Op3} {Z : Option Addr} {zn zc : Nat} {Y : Option Addr} {yn yc : Nat} {A : Option Addr} {n c : Nat} {B : Option Addr} {m d : Nat} (ho : o.Fine) (hx : OpAt w0 o Z zn zc Y yn yc A n c B m d) {g5 : Nat} (next : ∀ w, BkAt w0 w g [] (4000000000 * ((i + 1 : Nat) : Int)) → weftlaw3_Ip4Fresh.L1 m0 X xn xc g ((i + 1 : Nat) : Int) w (Yes w0)) {w : World} (H : BkAt w0 w g [(g5, 39, opv o Z zn zc Y yn yc A n c B m d)] (4000000000 * (i : Int))) (b : Bool) : weftlaw3_Ip4Fresh.J3 m0 X xn xc g (i : Int) g5 b w (Yes w0) := by
  unfold weftlaw3_Ip4Fresh.J3; intros
  rw [weftlaw3_Ip4Fresh.j3_eq]
  refine ifB (fun _ => ?_) (fun _ => ?_)
  · refine ⟨_, _, _, _, _, _, _, _, _, _, _, _, _, _, _, _, _, _, _, _, _, _, _, _, _, ⟨rfl, (H.own.bk 0 rfl).at⟩, ?_⟩
    refine call_of (lists_t ho hx H) ?_
    rintro e w2 ⟨A', n', c', B', m', d', rfl, H2, h1, h2, h3, h4⟩
    refine ⟨_, _, _, _, _, _, _, rfl, ifNot (fun h => by cases h) (fun _ => ?_)⟩
    refine call_of (keep_firstH H2 h1 h3 (by omega)) ?_
    rintro e w3 ⟨rfl, H3⟩
    refine ⟨rfl, ?_⟩
    refine call_of (keep_second H3 h2 H2.1.2 h4 (by omega)) ?_
    rintro e w4 ⟨rfl, H4⟩
    have kk := Fresh_j2 (X := X) (xc := xc) hn hi ho hx next (Pend.mono H4 (by omega))
    exact ⟨rfl, ⟨by with_reducible apply kk⟩⟩
  · have kk := Fresh_j2 (X := X) (xc := xc) hn hi ho hx next (Pend.mono H (by omega))
    exact ⟨by with_reducible apply kk⟩
theorem Fresh_l1 (hS : ScrS w0 X xn) (hn : xn ≤ 1048576) {g : Nat} : ∀ (q i : Nat) (w : World), xn - i < q → i ≤ xn → BkAt w0 w g [] (4000000000 * (i : Int)) → weftlaw3_Ip4Fresh.L1 q X xn xc g (i : Int) w (Yes w0) := by
  intro q
  induction q with
  | zero => intro i w h; omega
  | succ q ih =>
    intro i w hq hi H
    unfold weftlaw3_Ip4Fresh.L1; intros
    rw [weftlaw3_Ip4Fresh.l1_eq]
    refine ifD (fun h1 => ?_) (fun h1 => ?_)
    · have hi2 : i < xn := by omega
      obtain ⟨a, ea, hc⟩ := hS (by omega)
      obtain ⟨o, Z, zn, zc, Y, yn, yc, A, n, c, B, m, d, hat, hof, hoa, hsm1, hsm2⟩ := hc i (by omega)
      refine ⟨a, ea, ⟨by omega, by omega⟩, ?_⟩
      rw [Int.toNat_natCast]
      refine ⟨_, _, _, _, _, _, _, _, _, _, _, _, _, _, _, _, _, _, _, _, _, _, _, _, _, ⟨rfl, At.bel3 hat H.own.bel⟩, ?_⟩
      refine pend_mk (opv zop none 0 0 none 0 0 none 0 0 none 0 0) H rfl rfl fun g19 w1 H1 _ => ?_
      have next : ∀ w, BkAt w0 w g [] (4000000000 * ((i + 1 : Nat) : Int)) → weftlaw3_Ip4Fresh.L1 q X xn xc g ((i + 1 : Nat) : Int) w (Yes w0) := fun w H => ih (i + 1) w (by omega) (by omega) H
      refine ⟨_, H1.own.cell 0 0 rfl rfl, ?_⟩
      refine ifE (fun _ => ?_) (fun _ => ?_)
      · refine ⟨_, _, _, _, _, _, _, _, _, _, _, _, _, _, _, _, _, _, _, _, _, _, _, _, _, ⟨rfl, (H1.own.bk 0 rfl).at⟩, ?_⟩
        have ln := hoa.p.opts.len
        have lm := hoa.p.body.len
        refine call_of (built_t hof hoa (by omega) (by omega) H1) ?_
        rintro e w2 ⟨P, pn, pc, ⟨rfl, H2⟩, h1, h2⟩
        refine ⟨_, _, _, _, rfl, ifNot (fun h => by cases h) (fun _ => ?_)⟩
        refine call_of (keep_one H2 h1 h2 (by omega)) ?_
        rintro e w3 ⟨rfl, H3⟩
        have kk := Fresh_j2 (X := X) (xc := xc) hn hi2 hof hoa next (Pend.mono H3 (by omega))
        exact ⟨rfl, ⟨by with_reducible apply kk⟩⟩
      · refine ⟨_, H1.own.cell 0 0 rfl rfl, ?_⟩
        refine ifD (fun _ => ?_) (fun _ => ?_)
        · refine ⟨_, H1.own.cell 0 0 rfl rfl, ?_⟩
          have kk := Fresh_j3 (X := X) (xc := xc) hn hi2 hof hoa next H1 (decide (o.k ≤ 7))
          exact ⟨by with_reducible apply kk⟩
        · have kk := Fresh_j3 (X := X) (xc := xc) hn hi2 hof hoa next H1 false
          exact ⟨by with_reducible apply kk⟩
    · refine call_of (bk_whole H) ?_
      rintro e w1 ⟨rfl, k1⟩
      have hb := H.own.bel.trans k1
      refine ⟨_, rfl, ifB (fun _ => ?_) (fun h => by cases h)⟩
      have hS1 : ScrS w1 X xn := fun h => by
        obtain ⟨a, ea, hc⟩ := hS h
        refine ⟨a, ea, fun i hi => ?_⟩
        obtain ⟨o, Z, zn, zc, Y, yn, yc, A, n, c, B, m, d, hat, hof, hoa, hsm⟩ := hc i hi
        exact ⟨o, Z, zn, zc, Y, yn, yc, A, n, c, B, m, d, At.bel3 hat hb, hof, hoa.bel hb, hsm⟩
      refine call_of (untouched_t hS1 hn) ?_
      rintro e w2 ⟨rfl, k2⟩
      exact ⟨_, rfl, rfl, hb.trans k2⟩
theorem Ip4Fresh_t (h : (Scr w0 X xn ∧ ScrS w0 X xn) ∧ xn ≤ 1048576) : Calls Try.prog 4 #[.slice X xn xc] w0 (Yes w0) := by
  refine weftlaw3_Ip4Fresh.run ?_
  unfold weftlaw3_Ip4Fresh.s
  refine call_of (head_t w0 3) ?_
  rintro e w1 ⟨rfl, k1⟩
  refine ⟨_, rfl, ifNot (fun h => by cases h) (fun _ => ?_)⟩
  refine call_of (head_t w1 5) ?_
  rintro e w2 ⟨rfl, k2⟩
  refine ⟨_, rfl, ifNot (fun h => by cases h) (fun _ => ?_)⟩
  have key : weftlaw3_Ip4Fresh.J1 X xn xc w2 (Yes w0) := by
    unfold weftlaw3_Ip4Fresh.J1; intros
    rw [weftlaw3_Ip4Fresh.j1_eq]
    refine own_new (l := bkv none 0 0 none 0 0 0) (((Own.refl w0).call k1).call k2) fun g w3 H => ?_
    refine ⟨xn + 1, ?_⟩
    have I : BkAt w0 w3 g [] (4000000000 * ((0 : Nat) : Int)) := ⟨none, 0, 0, none, 0, 0, none, none, none, [], 0, [], 0, [], own_ofS H, RV.none, RV.none, rfl, rfl, Or.inl ⟨rfl, rfl, rfl⟩, (fun x hx => by cases hx), by decide, by decide, by decide⟩
    have kk : weftlaw3_Ip4Fresh.L1 (xn + 1) X xn xc g 0 w3 (Yes w0) := Fresh_l1 (xc := xc) h.1.2 h.2 (xn + 1) 0 w3 (by omega) (by omega) I
    with_reducible apply kk
  exact ⟨by with_reducible apply key⟩
end
end Go.Proofs.YtchdcdmdbjkihaaS
