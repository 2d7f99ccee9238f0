/- Package weftlaw6: untouched, IcmpFresh.
   Conditions: the script is as a row's argument is; the package variables are as they were laid. -/
import Derived.Test.YtchdcdmdbjkihaaDoorSKeepE
import Derived.Test.YtchdcdmdbjkihaaDoorSHand6
namespace Go.Proofs.YtchdcdmdbjkihaaDoorS
open Go Go.RowKit Go.Proofs Go.Proofs.YtchdcdmdbjkihaaDoorX
set_option maxRecDepth 100000
set_option linter.unusedVariables false
set_option linter.unusedSectionVars false
set_option linter.unusedSimpArgs false

section
variable {w0 w : World} {R : List Blk} {oA : Option Blk} {AL : Option Addr} {k cL : Nat} {P : List Blk} {vs : List Rt}
theorem got_app (xs : List Rt) {j : Nat} (hj : xs.length = j) (h0 : 0 < j) (H : OF w0 w (oA.toList ++ (P ++ R)) []) (qA : RV 30 1 oA AL k cL (vs.map Rt.v)) (hk : vs.length = k) (hin : ∀ x ∈ vs ++ xs, InP P x) (hpw : (vs ++ xs).Pairwise fun x y => Apt x.A x.c y.A y.c) (hb : k + j ≤ 100000000)
    {K : Nat → Option Addr → Nat → World → Prop} (hK : ∀ gg oA' A' c' wb, Got w0 wb R oA' A' (k + j) c' P (vs ++ xs) → K gg A' c' wb) :
    Let w.heap.size fun gg => Let (w.alloc (.cells (xs.map Rt.v).toArray 30)) fun w2 => AppE w2 1 24 30 [.slice none 0 0] AL k cL (some ⟨gg, 0, none⟩) j (K gg) := by
  refine rv_appm (m := j) (v := xs.map Rt.v) (H.call ((Bel.refl w).alloc _)) qA (by rw [List.length_map]; exact hj) h0 (List.all_eq_true.2 fun v hv => ?_) (Bk.new w _ _).at (by omega) (by omega) fun oA' A' c' wb H' q' => ?_
  · obtain ⟨x, _, rfl⟩ := List.mem_map.1 hv
    rfl
  · refine hK _ oA' A' c' wb ⟨H', by rw [List.map_append]; exact q', by rw [List.length_append]; omega, hin, hpw⟩
theorem Got.drop {p : Blk} (h : Got w0 w (p :: R) oA AL k cL P vs) : Got w0 w R oA AL k cL P vs := by
  refine ⟨?_, h.2⟩
  have H := h.1
  have e : (oA.toList ++ (P ++ (p :: R))).Perm (p :: (oA.toList ++ (P ++ R))) := (List.Perm.append_left _ List.perm_middle).trans List.perm_middle
  exact (H.perm e).tail
theorem got_push {p : Blk} {cs : List Lst} (H : OF w0 w (p :: (oA.toList ++ (P ++ R))) cs) : OF w0 w (oA.toList ++ (P ++ (p :: R))) cs :=
  H.perm (List.perm_middle.symm.trans (List.Perm.append_left _ List.perm_middle.symm))
theorem pw1 {x : Rt} (h : vs.Pairwise fun x y => Apt x.A x.c y.A y.c) (h1 : ∀ y ∈ vs, Apt y.A y.c x.A x.c) : (vs ++ [x]).Pairwise fun x y => Apt x.A x.c y.A y.c :=
  List.pairwise_append.2 ⟨h, List.pairwise_singleton _ _, fun y hy z hz => by rw [List.mem_singleton.1 hz]; exact h1 y hy⟩
theorem pw2 {x y : Rt} (h : vs.Pairwise fun x y => Apt x.A x.c y.A y.c) (h1 : ∀ z ∈ vs, Apt z.A z.c x.A x.c) (h2 : ∀ z ∈ vs, Apt z.A z.c y.A y.c) (h3 : Apt x.A x.c y.A y.c) : (vs ++ [x, y]).Pairwise fun x y => Apt x.A x.c y.A y.c :=
  List.pairwise_append.2 ⟨h, by simpa using h3, fun u hu z hz => by
    rcases List.mem_cons.1 hz with rfl | hz
    · exact h1 u hu
    · rw [List.mem_singleton.1 hz]; exact h2 u hu⟩
theorem in1 {x : Rt} (h : ∀ x ∈ vs, InP P x) (h1 : InP P x) : ∀ y ∈ vs ++ [x], InP P y := fun y hy => by
  rcases List.mem_append.1 hy with hy | hy
  · exact h y hy
  · rw [List.mem_singleton.1 hy]; exact h1
theorem in2 {x y : Rt} (h : ∀ x ∈ vs, InP P x) (h1 : InP P x) (h2 : InP P y) : ∀ z ∈ vs ++ [x, y], InP P z := fun z hz => by
  rcases List.mem_append.1 hz with hz | hz
  · exact h z hz
  · rcases List.mem_cons.1 hz with rfl | hz
    · exact h1
    · rw [List.mem_singleton.1 hz]; exact h2
end
section
variable {w0 : World} (hg : Gl w0) {X : Option Addr} {xn xc : Nat}
include hg
set_option maxHeartbeats 1000000 in
theorem unt_l2 {m0 i : Nat} (hi : i ≤ 2000000) {o : Op6} {Z : Option Addr} {zn zc : Nat} {C : Option Addr} {cn cc : Nat} {A : Option Addr} {n c : Nat} {B : Option Addr} {m d : Nat} (ho : o.Fine) (hx : OpAt w0 o Z zn zc C cn cc A n c B m d) (hs : o.Sm) {g5 : Nat}
    (next : ∀ (w : World) (oA : Option Blk) (AL : Option Addr) (k cL : Nat) (P : List Blk) (vs : List Rt), Got w0 w [] oA AL k cL P vs → k ≤ 4 * (i + 1) → weftlaw6_untouched.L1 m0 X xn xc AL k cL ((i + 1 : Nat) : Int) w (YesB w0)) :
    ∀ (q j : Nat) (w : World) (oA : Option Blk) (AL : Option Addr) (k cL : Nat) (P : List Blk) (vs : List Rt), 2 - j < q → j ≤ 2 → Got w0 w [(g5, 41, ov o Z zn zc C cn cc A n c B m d)] oA AL k cL P vs → k ≤ 4 * i + 2 * j →
    weftlaw6_untouched.L2 m0 q X xn xc AL k cL (i : Int) g5 (j : Int) w (YesB w0) := by
  intro q
  induction q with
  | zero => intro j w oA AL k cL P vs h; omega
  | succ q ih =>
    intro j w oA AL k cL P vs hq hj G hk
    unfold weftlaw6_untouched.L2; intros
    rw [weftlaw6_untouched.l2_eq]
    have H := G.1
    have hR := (OF.less (L := P) (OF.less (L := oA.toList) H)).own
    have l1 := hx.b.len
    have s1 := hs.b
    refine ifD (fun h1 => ?_) (fun h1 => ?_)
    · refine ⟨_, hR.cell 0 0 rfl rfl, ?_⟩
      have again : ∀ (w : World) (oA : Option Blk) (AL : Option Addr) (k cL : Nat) (P : List Blk) (vs : List Rt), Got w0 w [(g5, 41, ov o Z zn zc C cn cc A n c B m d)] oA AL k cL P vs → k ≤ 4 * i + 2 * (j + 1) → weftlaw6_untouched.L2 m0 q X xn xc AL k cL (i : Int) g5 ((j + 1 : Nat) : Int) w (YesB w0) := fun w oA AL k cL P vs G hk => ih (j + 1) w oA AL k cL P vs (by omega) (by omega) G hk
      have ej : IntKind.i64.wrap ((j : Int) + 1) = ((j + 1 : Nat) : Int) := by rw [w64 (by omega) (by omega)]; omega
      refine ifE (fun _ => ?_) (fun _ => ?_)
      · refine ⟨_, _, _, hR.cell 0 1 rfl rfl, ?_⟩
        refine call_of (parse_a (hx.b.bel hR.bel) ho.b hx.cb (by omega)) ?_
        rintro e w1 ⟨k1, x0, x1, x2, A', n', c', kk, rfl, t⟩
        obtain ⟨P', H2, p1, p2, p3, p4, p5⟩ := got_two G k1 t.r t.a t.b t.nc t.md t.n9 t.m9
        refine ⟨_, _, _, _, _, _, _, rfl, ?_⟩
        refine of_mk (mv 0 0 0 none 0 0) H2 rfl rfl fun g10 w2 H3 => ?_
        refine ⟨_, _, _, H3.own.cell 0 3 rfl rfl, ?_⟩
        refine got_app (j := 1) [⟨A', n', c'⟩] rfl (by omega) (got_push H3) G.2.1 G.2.2.1 (in1 p1 p2) (pw1 G.2.2.2.2 p4) (by omega) fun gg oA2 AL2 cL2 w3 G2 => ?_
        refine let_as _ ej ?_
        have kk := again w3 oA2 AL2 (k + 1) cL2 P' _ G2.drop (by omega)
        with_reducible apply kk
      refine ifE (fun _ => ?_) (fun _ => ?_)
      · refine ld_msgA (ov_msg (hR.bk 0 rfl)) ?_
        refine call_of (build_a ho.q (hx.q.bel hR.bel)) ?_
        rintro e w1 ⟨k1, A', n', c', kk, rfl, t⟩
        obtain ⟨P', H2, p1, p2, p3, p4, p5⟩ := got_two G k1 t.r t.a t.b t.nc t.md t.n9 t.m9
        refine ⟨_, _, _, _, rfl, ?_⟩
        refine got_app (j := 1) [⟨A', n', c'⟩] rfl (by omega) H2 G.2.1 G.2.2.1 (in1 p1 p2) (pw1 G.2.2.2.2 p4) (by omega) fun gg oA2 AL2 cL2 w3 G2 => ?_
        refine let_as _ ej ?_
        have kk := again w3 oA2 AL2 (k + 1) cL2 P' _ G2 (by omega)
        with_reducible apply kk
      refine ifE (fun _ => ?_) (fun _ => ?_)
      · refine ld_pktA (ov_pkt (hR.bk 0 rfl)) ?_
        refine ⟨_, hR.cell 0 17 rfl rfl, _, hR.cell 0 18 rfl rfl, _, hR.cell 0 19 rfl rfl, _, hR.cell 0 20 rfl rfl, ?_⟩
        refine call_of (fault_a6 (hg.bel hR.bel) ho.p (hx.p.bel hR.bel) ho.t ho.cd ho.src) ?_
        rintro e w1 ⟨k1, qq, A', n', c', B', m', d', kk, rfl, t⟩
        obtain ⟨P', H2, p1, p2, p3, p4, p5⟩ := got_two G k1 t.r t.a t.b t.nc t.md t.n9 t.m9
        refine ⟨_, _, _, _, _, _, _, _, _, _, _, _, _, _, _, _, rfl, ?_⟩
        refine of_mk (pb pz none 0 0 none 0 0) H2 rfl rfl fun g10 w2 H3 => ?_
        refine ⟨_, _, _, H3.own.cell 0 9 rfl rfl, _, _, _, H3.own.cell 0 10 rfl rfl, ?_⟩
        refine got_app (j := 2) [⟨A', n', c'⟩, ⟨B', m', d'⟩] rfl (by omega) (got_push H3) G.2.1 G.2.2.1 (in2 p1 p2 p3) (pw2 G.2.2.2.2 p4 p5 t.r.apt) (by omega) fun gg oA2 AL2 cL2 w3 G2 => ?_
        refine let_as _ ej ?_
        have kk := again w3 oA2 AL2 (k + 2) cL2 P' _ G2.drop (by omega)
        with_reducible apply kk
      refine ifE (fun _ => ?_) (fun _ => ?_)
      · refine ld_pktA (ov_pkt (hR.bk 0 rfl)) ?_
        refine call_of (echo_a6 (hg.bel hR.bel) ho.p (hx.p.bel hR.bel)) ?_
        rintro e w1 ⟨k1, qq, A', n', c', B', m', d', kk, rfl, t⟩
        obtain ⟨P', H2, p1, p2, p3, p4, p5⟩ := got_two G k1 t.r t.a t.b t.nc t.md t.n9 t.m9
        refine ⟨_, _, _, _, _, _, _, _, _, _, _, _, _, _, _, _, rfl, ?_⟩
        refine of_mk (pb pz none 0 0 none 0 0) H2 rfl rfl fun g10 w2 H3 => ?_
        refine ⟨_, _, _, H3.own.cell 0 9 rfl rfl, _, _, _, H3.own.cell 0 10 rfl rfl, ?_⟩
        refine got_app (j := 2) [⟨A', n', c'⟩, ⟨B', m', d'⟩] rfl (by omega) (got_push H3) G.2.1 G.2.2.1 (in2 p1 p2 p3) (pw2 G.2.2.2.2 p4 p5 t.r.apt) (by omega) fun gg oA2 AL2 cL2 w3 G2 => ?_
        refine let_as _ ej ?_
        have kk := again w3 oA2 AL2 (k + 2) cL2 P' _ G2.drop (by omega)
        with_reducible apply kk
      refine ifE (fun _ => ?_) (fun _ => ?_)
      · refine ld_pktA (ov_pkt (hR.bk 0 rfl)) ?_
        refine call_of (about_a6 (hg.bel hR.bel) ho.p (hx.p.bel hR.bel)) ?_
        rintro e w1 ⟨k1, qq, A', n', c', B', m', d', kk, rfl, t⟩
        obtain ⟨P', H2, p1, p2, p3, p4, p5⟩ := got_two G k1 t.r t.a t.b t.nc t.md t.n9 t.m9
        refine ⟨_, _, _, _, _, _, _, _, _, _, _, _, _, _, _, _, rfl, ?_⟩
        refine of_mk hz H2 rfl rfl fun g10 w2 H3 => ?_
        refine ⟨_, _, _, H3.own.cell 0 9 rfl rfl, ?_⟩
        refine got_app (j := 2) [⟨A', n', c'⟩, ⟨B', m', d'⟩] rfl (by omega) (got_push H3) G.2.1 G.2.2.1 (in2 p1 p2 p3) (pw2 G.2.2.2.2 p4 p5 t.r.apt) (by omega) fun gg oA2 AL2 cL2 w3 G2 => ?_
        refine let_as _ ej ?_
        have kk := again w3 oA2 AL2 (k + 2) cL2 P' _ G2.drop (by omega)
        with_reducible apply kk
      refine let_as _ ej ?_
      have kk := again w oA AL k cL P vs G (by omega)
      with_reducible apply kk
    · refine let_as ((i + 1 : Nat) : Int) (by rw [w64 (by omega) (by omega)]; omega) ?_
      have kk := next w oA AL k cL P vs G.drop (by omega)
      with_reducible apply kk
omit hg in
theorem unt_l3 {g : Nat} {AL : Option Addr} {k cL : Nat} {oA : Option Blk} {vs : List Rt} (qA : RV 30 1 oA AL k cL (vs.map Rt.v)) (hk : vs.length = k) (hk2 : k ≤ 100000000) : ∀ (q i : Nat) (w : World), k - i < q → i ≤ k → Wrt w0 w g (oA.toList ++ []) (vs.drop i) (2000000000 * (i : Int)) →
    weftlaw6_untouched.L3 q AL k cL g (i : Int) w (YesB w0) := by
  intro q
  induction q with
  | zero => intro i w h; omega
  | succ q ih =>
    intro i w hq hi H
    unfold weftlaw6_untouched.L3; intros
    rw [weftlaw6_untouched.l3_eq]
    have hown : Own w0 w (oA.toList ++ []) := by
      obtain ⟨AL, nL, cL, AM, nM, cM, oL, oM, es, z, cs, P, H, _⟩ := H
      exact (OF.less (L := P) (OF.less (L := oM.toList) (OF.less (L := oL.toList) H.tail))).own
    refine ifD (fun h1 => ?_) (fun h1 => ?_)
    · have hi2 : i < vs.length := by omega
      obtain ⟨a, ha, r⟩ := rv_cell qA (i := i) (by omega) (v := vs[i].v) (by rw [List.getElem?_map, List.getElem?_eq_getElem hi2]; rfl)
      refine ⟨a, ha, ⟨by omega, by omega⟩, _, _, _, by rw [Int.toNat_natCast]; exact r hown, ?_⟩
      rw [List.drop_eq_getElem_cons hi2] at H
      refine call_of (wrt_keep H (by omega)) ?_
      rintro e w1 ⟨rfl, H1⟩
      refine ⟨rfl, ?_⟩
      refine let_as ((i + 1 : Nat) : Int) (by rw [w64 (by omega) (by omega)]; omega) ?_
      have e1 : 2000000000 * (i : Int) + 2000000000 = 2000000000 * ((i + 1 : Nat) : Int) := by omega
      rw [e1] at H1
      have kk := ih (i + 1) w1 (by omega) (by omega) H1
      with_reducible apply kk
    · have e0 : vs.drop i = [] := List.drop_eq_nil_of_le (by omega)
      rw [e0] at H
      refine call_of (wrt_whole H) ?_
      rintro e w1 ⟨rfl, k1⟩
      exact ⟨_, rfl, rfl, hown.bel.trans k1⟩
theorem unt_l1 (hS : ScrS w0 X xn) (hn : xn ≤ 1048576) : ∀ (q i : Nat) (w : World) (oA : Option Blk) (AL : Option Addr) (k cL : Nat) (P : List Blk) (vs : List Rt), xn - i < q → i ≤ xn → Got w0 w [] oA AL k cL P vs → k ≤ 4 * i → weftlaw6_untouched.L1 q X xn xc AL k cL (i : Int) w (YesB w0) := by
  intro q
  induction q with
  | zero => intro i w oA AL k cL P vs h; omega
  | succ q ih =>
    intro i w oA AL k cL P vs hq hi G hk
    unfold weftlaw6_untouched.L1; intros
    rw [weftlaw6_untouched.l1_eq]
    have H := G.1
    refine ifD (fun h1 => ?_) (fun h1 => ?_)
    · obtain ⟨a, ea, hc⟩ := hS (by omega)
      obtain ⟨o, Z, zn, zc, C, cn, cc, A, n, c, B, m, d, hat, hof, hoa, hsm⟩ := hc i (by omega)
      refine ⟨a, ea, ⟨by omega, by omega⟩, ?_⟩
      rw [Int.toNat_natCast]
      refine ⟨_, _, _, _, _, _, _, _, _, _, _, _, _, _, _, _, _, _, _, _, _, _, _, _, _, _, _, _, _, ⟨rfl, At.bel6 hat H.own.bel⟩, ?_⟩
      refine of_mk (ov zop none 0 0 none 0 0 none 0 0 none 0 0) H rfl rfl fun g5 w1 H1 => ?_
      obtain ⟨qq, hqq⟩ : ∃ qq : Nat, qq = 3 := ⟨3, rfl⟩
      refine ⟨qq, ?_⟩
      have kk : weftlaw6_untouched.L2 q qq X xn xc AL k cL (i : Int) g5 0 w1 (YesB w0) := unt_l2 hg (by omega) hof hoa hsm (fun w oA AL k cL P vs G hk => ih (i + 1) w oA AL k cL P vs (by omega) (by omega) G hk) qq 0 w1 oA AL k cL P vs (by omega) (by omega) ⟨got_push H1, G.2⟩ (by omega)
      with_reducible apply kk
    · refine let_as w.heap.size rfl (let_as (w.alloc (.cells (bkv none 0 0 none 0 0 0).toArray 27)) rfl ?_)
      have H1 := H.new 27 (bkv none 0 0 none 0 0 0)
      generalize hgg : w.heap.size = g27 at H1 ⊢
      generalize w.alloc (.cells (bkv none 0 0 none 0 0 0).toArray 27) = w1 at H1 ⊢
      refine ⟨k + 1, ?_⟩
      have W : Wrt w0 w1 g27 (oA.toList ++ []) (vs.drop 0) (2000000000 * ((0 : Nat) : Int)) := ⟨none, 0, 0, none, 0, 0, none, none, [], 0, [], P, H1.perm (List.Perm.cons _ (List.perm_append_comm_assoc _ _ _)), RV.none, RV.none, rfl, rfl, (fun x hx => by cases hx), G.2.2.2.1, G.2.2.2.2, by decide, by decide, by decide⟩
      have kk : weftlaw6_untouched.L3 (k + 1) AL k cL g27 0 w1 (YesB w0) := unt_l3 G.2.1 G.2.2.1 (by omega) (k + 1) 0 w1 (by omega) (by omega) W
      with_reducible apply kk
theorem untouched_t (hS : ScrS w0 X xn) (hn : xn ≤ 1048576) : Calls Tryd.prog 12 #[.slice X xn xc] w0 (YesB w0) := by
  refine weftlaw6_untouched.run ?_
  unfold weftlaw6_untouched.s
  refine ⟨xn + 1, ?_⟩
  have kk : weftlaw6_untouched.L1 (xn + 1) X xn xc none 0 0 0 w0 (YesB w0) := unt_l1 hg hS hn (xn + 1) 0 w0 none none 0 0 [] [] (by omega) (by omega) ⟨own_of (Own.refl w0), RV.none, rfl, (fun x hx => by cases hx), List.Pairwise.nil⟩ (by omega)
  with_reducible apply kk
theorem Fresh_l1 (hS : ScrS w0 X xn) (hn : xn ≤ 1048576) {g : Nat} : ∀ (q i : Nat) (w : World), xn - i < q → i ≤ xn → BkAt w0 w g [] (4000000000 * (i : Int)) → weftlaw6_IcmpFresh.L1 q X xn xc g (i : Int) w (Yes w0) := by
  intro q
  induction q with
  | zero => intro i w h; omega
  | succ q ih =>
    intro i w hq hi H
    unfold weftlaw6_IcmpFresh.L1; intros
    rw [weftlaw6_IcmpFresh.l1_eq]
    refine ifD (fun h1 => ?_) (fun h1 => ?_)
    · obtain ⟨a, ea, hc⟩ := hS (by omega)
      obtain ⟨o, Z, zn, zc, C, cn, cc, A, n, c, B, m, d, hat, hof, hoa, hsm⟩ := hc i (by omega)
      refine ⟨a, ea, ⟨by omega, by omega⟩, ?_⟩
      rw [Int.toNat_natCast]
      refine ⟨_, _, _, _, _, _, _, _, _, _, _, _, _, _, _, _, _, _, _, _, _, _, _, _, _, _, _, _, _, ⟨rfl, At.bel6 hat H.own.bel⟩, ?_⟩
      refine call_of (handed_t hg hof hoa hsm H (by omega)) ?_
      rintro e w1 ⟨rfl, H1⟩
      have e1 : 4000000000 * (i : Int) + 4000000000 = 4000000000 * ((i + 1 : Nat) : Int) := by omega
      rw [e1] at H1
      refine ⟨_, rfl, ifNot (fun h => by cases h) (fun _ => ?_)⟩
      refine let_as ((i : Int) % 64) (tm (by omega)) ?_
      refine ifE (fun _ => ?_) (fun _ => ?_)
      · refine call_of (bk_whole H1) ?_
        rintro e w2 ⟨rfl, k2⟩
        refine ⟨_, rfl, ifNot (fun h => by cases h) (fun _ => ?_)⟩
        refine let_as ((i + 1 : Nat) : Int) (by rw [w64 (by omega) (by omega)]; omega) ?_
        have kk := ih (i + 1) w2 (by omega) (by omega) (H1.call k2)
        with_reducible apply kk
      · refine let_as ((i + 1 : Nat) : Int) (by rw [w64 (by omega) (by omega)]; omega) ?_
        have kk := ih (i + 1) w1 (by omega) (by omega) H1
        with_reducible apply kk
    · refine call_of (bk_whole H) ?_
      rintro e w1 ⟨rfl, k1⟩
      have hb := H.own.bel.trans k1
      refine ⟨_, rfl, ifB (fun _ => ?_) (fun h => by cases h)⟩
      have hS1 : ScrS w1 X xn := fun h => by
        obtain ⟨a, ea, hc⟩ := hS h
        refine ⟨a, ea, fun i hi => ?_⟩
        obtain ⟨o, Z, zn, zc, C, cn, cc, A, n, c, B, m, d, hat, hof, hoa, hsm⟩ := hc i hi
        exact ⟨o, Z, zn, zc, C, cn, cc, A, n, c, B, m, d, At.bel6 hat hb, hof, hoa.bel hb, hsm⟩
      refine call_of (untouched_t (hg.bel hb) hS1 hn) ?_
      rintro e w2 ⟨rfl, k2⟩
      exact ⟨_, rfl, rfl, hb.trans k2⟩
theorem IcmpFresh_t (h : ScrS w0 X xn ∧ xn ≤ 1048576) : Calls Tryd.prog 3 #[.slice X xn xc] w0 (Yes w0) := by
  refine weftlaw6_IcmpFresh.run ?_
  unfold weftlaw6_IcmpFresh.s
  refine call_of (head_t hg 2) ?_
  rintro e w1 ⟨rfl, k1⟩
  refine ⟨_, rfl, ifNot (fun h => by cases h) (fun _ => ?_)⟩
  refine call_of (head_t (hg.bel k1) 3) ?_
  rintro e w2 ⟨rfl, k2⟩
  refine ⟨_, rfl, ifNot (fun h => by cases h) (fun _ => ?_)⟩
  have key : weftlaw6_IcmpFresh.J1 X xn xc w2 (Yes w0) := by
    unfold weftlaw6_IcmpFresh.J1; intros
    rw [weftlaw6_IcmpFresh.j1_eq]
    refine own_new (l := bkv none 0 0 none 0 0 0) (((Own.refl w0).call k1).call k2) fun g w3 H => ?_
    refine ⟨xn + 1, ?_⟩
    have I : BkAt w0 w3 g [] (4000000000 * ((0 : Nat) : Int)) := ⟨none, 0, 0, none, 0, 0, none, none, none, [], 0, [], 0, [], own_of H, RV.none, RV.none, rfl, rfl, Or.inl ⟨rfl, rfl, rfl⟩, (fun x hx => by cases hx), by decide, by decide, by decide⟩
    have kk : weftlaw6_IcmpFresh.L1 (xn + 1) X xn xc g 0 w3 (Yes w0) := Fresh_l1 hg (xc := xc) h.1 h.2 (xn + 1) 0 w3 (by omega) (by omega) I
    with_reducible apply kk
  exact ⟨by with_reducible apply key⟩
end
end Go.Proofs.YtchdcdmdbjkihaaDoorS
