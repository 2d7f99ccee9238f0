/- Package weftlaw6: IcmpScript, the steps one after another.
   Conditions: the script is as a row's argument is. -/
import Derived.Test.YtchdcdmdbjkihaaDoorSJD
namespace Go.Proofs.YtchdcdmdbjkihaaDoorS
open Go Go.RowKit Go.Proofs Go.Proofs.YtchdcdmdbjkihaaDoorX
set_option maxRecDepth 100000
set_option linter.unusedVariables false
set_option linter.unusedSectionVars false
set_option linter.unusedSimpArgs false

/-- Where an answer's lists lie. -/
structure Ad where
  D : Option Addr
  dn : Nat
  dc : Nat
  A : Option Addr
  n : Nat
  c : Nat
  B : Option Addr
  m : Nat
  d : Nat
  F : Option Addr
  fn : Nat
  fc : Nat
def Ad.v (a : Ad) (T : Tk) : List Value := tkv T a.D a.dn a.dc a.A a.n a.c a.B a.m a.d a.F a.fn a.fc
def Ad.ls (a : Ad) (T : Tk) : List Lst := [(a.D, a.dn, T.q.body), (a.A, a.n, T.p.opts), (a.B, a.m, T.p.body), (a.F, a.fn, T.b)]
/-- An answer that is kept, and the document's. -/
structure En where
  T : Tk
  x : Ad
  y : Ad
def En.a (e : En) : List Value := e.x.v e.T
def En.w (e : En) : List Value := e.y.v e.T
theorem En.a_len (e : En) : e.a.length = 17 := rfl
theorem En.w_len (e : En) : e.w.length = 17 := rfl
structure En.Ok (e : En) (cs : List Lst) : Prop where
  a : e.x.ls e.T ⊆ cs
  w : e.y.ls e.T ⊆ cs
  s : e.T.Sm
theorem En.Ok.mono {e : En} {cs cs' : List Lst} (h : e.Ok cs) (k : cs ⊆ cs') : e.Ok cs' := ⟨fun x hx => k (h.a hx), fun x hx => k (h.w hx), h.s⟩
theorem OF.tk {w0 w : World} {L : List Blk} {cs : List Lst} {a : Ad} {T : Tk} (h : OF w0 w L cs) (k : a.ls T ⊆ cs) : TkAt w T a.D a.dn a.dc a.A a.n a.c a.B a.m a.d a.F a.fn a.fc :=
  ⟨(h.fz _ (k (List.mem_cons_self))).1, (h.fz _ (k (List.mem_cons_of_mem _ List.mem_cons_self))).1, (h.fz _ (k (List.mem_cons_of_mem _ (List.mem_cons_of_mem _ List.mem_cons_self)))).1, (h.fz _ (k (List.mem_cons_of_mem _ (List.mem_cons_of_mem _ (List.mem_cons_of_mem _ List.mem_cons_self))))).1⟩
theorem OF.adds {w0 w w' : World} {L : List Blk} {cs : List Lst} {T : Tk} {a : Ad} (h : OF w0 w L cs) (k : Bel w w') (y : TkAt w' T a.D a.dn a.dc a.A a.n a.c a.B a.m a.d a.F a.fn a.fc) (f0 : 0 < a.dn → Fre w a.D) (f1 : 0 < a.n → Fre w a.A) (f2 : 0 < a.m → Fre w a.B) (f3 : 0 < a.fn → Fre w a.F) : OF w0 w' L (a.ls T ++ cs) :=
  ((((h.call k).add (x := (a.F, a.fn, T.b)) y.b (fun hm => h.new_ne (f3 hm))).add (x := (a.B, a.m, T.p.body)) y.body (fun hm => h.new_ne (f2 hm))).add (x := (a.A, a.n, T.p.opts)) y.opts (fun hn => h.new_ne (f1 hn))).add (x := (a.D, a.dn, T.q.body)) y.q (fun hn => h.new_ne (f0 hn))
/-- What holds between the steps; k: how many are kept. -/
def Iv (w0 w : World) (g7 : Nat) (AL : Option Addr) (k cL : Nat) (AW : Option Addr) (k' cW : Nat) (held : Int) (i : Nat) : Prop :=
  ∃ (oL oW : Option Blk) (es : List En) (o : Op6) (Z : Option Addr) (zn zc : Nat) (C : Option Addr) (cn cc : Nat) (A : Option Addr) (n c : Nat) (B : Option Addr) (m d : Nat) (os : List (Option Blk)) (cs : List Lst),
    OF w0 w ((g7, 41, ov o Z zn zc C cn cc A n c B m d) :: (oL.toList ++ (oW.toList ++ (Bls os ++ [])))) cs ∧ RV 49 17 oL AL k cL (es.flatMap En.a) ∧ RV 49 17 oW AW k' cW (es.flatMap En.w) ∧ es.length = k ∧ k' = k ∧
    (∀ e ∈ es, e.Ok cs) ∧ SLs os (lists6 o Z zn zc C cn cc A n c B m d) ∧ o.Fine ∧ o.Sm ∧ 800 * (k : Int) ≤ held ∧ 800 * (k : Int) ≤ 33554432 ∧ held ≤ 5000000000 * (i : Int)
theorem perm3 {α : Type} (o X : List α) (a b c : α) : (o ++ (a :: b :: c :: X)).Perm (a :: b :: c :: (o ++ X)) := List.perm_middle.trans ((perm2 _ _ _ _).cons _)
theorem Script_l2 {w0 : World} {AL : Option Addr} {k cL : Nat} {AW : Option Addr} {cW : Nat} {L : List Blk} {oL oW : Option Blk} {cs : List Lst} {es : List En} (qL : RV 49 17 oL AL k cL (es.flatMap En.a)) (qW : RV 49 17 oW AW k cW (es.flatMap En.w)) (hes : es.length = k) (hok : ∀ e ∈ es, e.Ok cs) (hk : k ≤ 100000000) : ∀ (q i : Nat) (w : World), k - i < q → i ≤ k →
    OF w0 w (oL.toList ++ (oW.toList ++ L)) cs → weftlaw6_IcmpScript.L2 q AL k cL AW k cW (i : Int) w (Yes w0) := by
  intro q
  induction q with
  | zero => intro i w h; omega
  | succ q ih =>
    intro i w hq hi H
    unfold weftlaw6_IcmpScript.L2; intros
    rw [weftlaw6_IcmpScript.l2_eq]
    refine ifD (fun h1 => ?_) (fun h1 => ⟨rfl, H.own.bel⟩)
    have hi2 : i < k := by omega
    refine draws (fun w' => OF w0 w' (oL.toList ++ (oW.toList ++ L)) cs) (H.call (Bel.refl w).drew) fun w2 e2' => ?_
    replace H := H.call (Bel.refl w).drew
    rw [← e2'] at H
    have hx : es[i]? = some es[i] := List.getElem?_eq_getElem (by omega)
    have ho := hok es[i] (List.getElem_mem _)
    generalize es[i] = e at hx ho
    obtain ⟨b1, e1, r1⟩ := qL.rdb hi2 (by decide)
    obtain ⟨b2, e2, r2⟩ := qW.rdb hi2 (by decide)
    refine ⟨_, e1, ⟨by omega, by omega⟩, ?_⟩
    rw [Int.toNat_natCast, add_blk, Nat.zero_add]
    refine ⟨_, _, _, _, _, _, _, _, _, _, _, _, _, _, _, _, _, _, _, _, _, _, _, _, _, ⟨rfl, fun w' h => r1 (u := e.a) h.own (fm_at En.a En.a_len hx)⟩, ?_⟩
    refine ⟨_, e2, ⟨by omega, by omega⟩, ?_⟩
    rw [add_blk, Nat.zero_add]
    refine ⟨_, _, _, _, _, _, _, _, _, _, _, _, _, _, _, _, _, _, _, _, _, _, _, _, _, ⟨rfl, fun w' h => r2 (u := e.w) (h.perm (List.perm_append_comm_assoc _ _ _)).own (fm_at En.w En.w_len hx)⟩, ?_⟩
    refine call_of (agree_t (T := e.T) (H.tk ho.a) (H.tk ho.w) ho.s) ?_
    rintro z w3 ⟨rfl, k3⟩
    refine ⟨_, rfl, H.call k3, ifNot (fun h => by cases h) (fun _ => ?_)⟩
    refine let_as ((i + 1 : Nat) : Int) (by rw [w64 (by omega) (by omega)]; omega) ?_
    have kk := ih (i + 1) w3 (by omega) (by omega) (H.call k3)
    with_reducible apply kk
theorem Script_j3 {w0 : World} (hg : Gl w0) {X : Option Addr} {xn xc : Nat} {X' : Option Addr} {xn' xc' : Nat} {m0 i : Nat} (hi : i < 10000000)
    (hk : ∀ (AL : Option Addr) (k cL : Nat) (AW : Option Addr) (k' cW : Nat) (g7 : Nat) (held : Int) (w : World), Iv w0 w g7 AL k cL AW k' cW held (i + 1) → weftlaw6_IcmpScript.L1 m0 X xn xc X' xn' xc' AL k cL AW k' cW g7 held ((i + 1 : Nat) : Int) w (Yes w0))
    {AL : Option Addr} {k cL : Nat} {AW : Option Addr} {k' cW : Nat} {g7 : Nat} {held : Int} {w : World} (I : Iv w0 w g7 AL k cL AW k' cW held i) : weftlaw6_IcmpScript.J3 m0 X xn xc X' xn' xc' AL k cL AW k' cW g7 held (i : Int) w (Yes w0) := by
  obtain ⟨oL, oW, es, o, Z, zn, zc, C, cn, cc, A, n, c, B, m, d, os, cs, H, qL, qW, hes, rfl, hok, xo, ho, hs, h1, h2, h3⟩ := I
  unfold weftlaw6_IcmpScript.J3; intros
  rw [weftlaw6_IcmpScript.j3_eq]
  have hl := tld_len ho hs
  have hT : (tldOf o).Sm := ⟨hl.1, hl.2.1, hl.2.2.1, hl.2.2.2⟩
  have sub : ∀ {w : World} {M : List Blk} {cs : List Lst}, OF w0 w (M ++ (oL.toList ++ (oW.toList ++ (Bls os ++ [])))) cs → OpAt w o Z zn zc C cn cc A n c B m d := fun h => xo6_at (OF.less (L := oW.toList) (OF.less (L := oL.toList) (OF.less h))).own xo
  have hx0 : OpAt w o Z zn zc C cn cc A n c B m d := sub (M := [_]) H
  refine ⟨_, _, _, _, _, _, _, _, _, _, _, _, _, _, _, _, _, _, _, _, _, _, _, _, _, _, _, _, _, ⟨rfl, (H.own.bk 0 rfl).at⟩, ?_⟩
  refine call_of (ran_t (hg.bel H.own.bel) ho hx0) ?_
  rintro e w1 ⟨k1, D1, dn1, dc1, A1, n1, c1, B1, m1, d1, F1, fn1, fc1, rfl, y1, f0, f1, f2, f3⟩
  have H1 := H.adds (a := ⟨D1, dn1, dc1, A1, n1, c1, B1, m1, d1, F1, fn1, fc1⟩) k1 y1 f0 f1 f2 f3
  refine ⟨_, _, _, _, _, _, _, _, _, _, _, _, _, _, _, _, _, _, _, _, _, _, _, _, _, rfl, ?_⟩
  refine of_mk tz H1 rfl rfl fun g33 w2 H2 => ?_
  refine ⟨_, _, _, _, _, _, _, _, _, _, _, _, _, _, _, _, _, _, _, _, _, _, _, _, _, _, _, _, _, ⟨rfl, (H2.own.bk 1 rfl).at⟩, ?_⟩
  refine call_of (meant_t ho hs (sub (M := [_, _]) H2)) ?_
  rintro e w3 ⟨k3, D2, dn2, dc2, A2, n2, c2, B2, m2, d2, F2, fn2, fc2, rfl, y2, f4, f5, f6, f7⟩
  have H3 := H2.adds (a := ⟨D2, dn2, dc2, A2, n2, c2, B2, m2, d2, F2, fn2, fc2⟩) k3 y2 f4 f5 f6 f7
  refine ⟨_, _, _, _, _, _, _, _, _, _, _, _, _, _, _, _, _, _, _, _, _, _, _, _, _, rfl, ?_⟩
  refine of_mk tz H3 rfl rfl fun g68 w4 H4 => ?_
  have e1 := y1.q.len
  have e2 := y1.opts.len
  have e3 := y1.body.len
  have e4 := y1.b.len
  generalize hT0 : tldOf o = T at *
  obtain ⟨a1, ha1⟩ : ∃ a1 : Ad, a1 = ⟨D1, dn1, dc1, A1, n1, c1, B1, m1, d1, F1, fn1, fc1⟩ := ⟨_, rfl⟩
  obtain ⟨a2, ha2⟩ : ∃ a2 : Ad, a2 = ⟨D2, dn2, dc2, A2, n2, c2, B2, m2, d2, F2, fn2, fc2⟩ := ⟨_, rfl⟩
  replace H4 : OF w0 w4 ((g68, 49, tkv T D2 dn2 dc2 A2 n2 c2 B2 m2 d2 F2 fn2 fc2) :: (g33, 49, tkv T D1 dn1 dc1 A1 n1 c1 B1 m1 d1 F1 fn1 fc1) :: (g7, 41, ov o Z zn zc C cn cc A n c B m d) :: (oL.toList ++ (oW.toList ++ (Bls os ++ [])))) (a2.ls T ++ (a1.ls T ++ cs)) := by rw [ha1, ha2]; exact H4
  have i2 : a2.ls T ⊆ a2.ls T ++ (a1.ls T ++ cs) := List.subset_append_left _ _
  have i1 : a1.ls T ⊆ a2.ls T ++ (a1.ls T ++ cs) := fun x hx => List.mem_append.2 (Or.inr (List.mem_append.2 (Or.inl hx)))
  have isub : cs ⊆ a2.ls T ++ (a1.ls T ++ cs) := fun x hx => List.mem_append.2 (Or.inr (List.mem_append.2 (Or.inr hx)))
  generalize a2.ls T ++ (a1.ls T ++ cs) = cs' at H4 i1 i2 isub
  have t1 := fun (w : World) (L : List Blk) (h : OF w0 w L cs') => h.tk i1
  have t2 := fun (w : World) (L : List Blk) (h : OF w0 w L cs') => h.tk i2
  have z1 : a1.v T = tkv T D1 dn1 dc1 A1 n1 c1 B1 m1 d1 F1 fn1 fc1 := by rw [ha1]; rfl
  have z2 : a2.v T = tkv T D2 dn2 dc2 A2 n2 c2 B2 m2 d2 F2 fn2 fc2 := by rw [ha2]; rfl
  rw [ha1] at t1
  rw [ha2] at t2
  refine ⟨_, _, _, _, _, _, _, _, _, _, _, _, _, _, _, _, _, _, _, _, _, _, _, _, _, ⟨rfl, (H4.own.bk 1 rfl).at⟩, ?_⟩
  refine ⟨_, _, _, _, _, _, _, _, _, _, _, _, _, _, _, _, _, _, _, _, _, _, _, _, _, ⟨rfl, (H4.own.bk 0 rfl).at⟩, ?_⟩
  refine call_of (agree_t (T := T) (t1 _ _ H4) (t2 _ _ H4) hT) ?_
  rintro z w5 ⟨rfl, k5⟩
  replace H4 := H4.call k5
  have s1 := hT.q
  have s2 := hT.o
  have s3 := hT.b
  have s4 := hT.l
  refine ⟨_, rfl, ifNot (fun h => by cases h) (fun _ => ?_)⟩
  refine let_as (held + 800) (w64 (by omega) (by omega)) ?_
  refine ⟨_, _, _, H4.own.cell 1 15 rfl rfl, ?_⟩
  refine let_as (held + 800 + (fn1 : Int)) (w64 (by omega) (by omega)) ?_
  refine ⟨_, _, _, H4.own.cell 1 14 rfl rfl, ?_⟩
  refine let_as (held + 800 + (fn1 : Int) + (m1 : Int)) (w64 (by omega) (by omega)) ?_
  refine ⟨_, _, _, H4.own.cell 1 13 rfl rfl, ?_⟩
  refine let_as (held + 800 + (fn1 : Int) + (m1 : Int) + (n1 : Int)) (w64 (by omega) (by omega)) ?_
  refine ⟨_, _, _, H4.own.cell 1 3 rfl rfl, ?_⟩
  refine let_as (held + 800 + (fn1 : Int) + (m1 : Int) + (n1 : Int) + (dn1 : Int)) (w64 (by omega) (by omega)) ?_
  refine ifD (fun h5 => ?_) (fun h5 => ?_)
  · refine ⟨_, _, _, _, _, _, _, _, _, _, _, _, _, _, _, _, _, _, _, _, _, _, _, _, _, ⟨rfl, (H4.own.bk 1 rfl).at⟩, ?_⟩
    refine let_as w5.heap.size rfl (let_as (w5.alloc (.cells (tkv T D1 dn1 dc1 A1 n1 c1 B1 m1 d1 F1 fn1 fc1).toArray 49)) rfl ?_)
    refine rv_app (zs := tz) rfl ((H4.call ((Bel.refl w5).alloc _)).perm (perm3 _ _ _ _ _).symm) qL (v := tkv T D1 dn1 dc1 A1 n1 c1 B1 m1 d1 F1 fn1 fc1) rfl rfl (Bk.new w5 _ _).at (by omega) (by omega) fun oL' AL' cL' w6 H6 qL' => ?_
    replace H6 := H6.perm (perm3 _ _ _ _ _)
    refine ⟨_, _, _, _, _, _, _, _, _, _, _, _, _, _, _, _, _, _, _, _, _, _, _, _, _, ⟨rfl, (H6.own.bk 0 rfl).at⟩, ?_⟩
    refine let_as w6.heap.size rfl (let_as (w6.alloc (.cells (tkv T D2 dn2 dc2 A2 n2 c2 B2 m2 d2 F2 fn2 fc2).toArray 49)) rfl ?_)
    have p7 : ((g68, 49, tkv T D2 dn2 dc2 A2 n2 c2 B2 m2 d2 F2 fn2 fc2) :: (g33, 49, tkv T D1 dn1 dc1 A1 n1 c1 B1 m1 d1 F1 fn1 fc1) :: (g7, 41, ov o Z zn zc C cn cc A n c B m d) :: (oL'.toList ++ (oW.toList ++ (Bls os ++ [])))).Perm (oW.toList ++ ((g68, 49, tkv T D2 dn2 dc2 A2 n2 c2 B2 m2 d2 F2 fn2 fc2) :: (g33, 49, tkv T D1 dn1 dc1 A1 n1 c1 B1 m1 d1 F1 fn1 fc1) :: (g7, 41, ov o Z zn zc C cn cc A n c B m d) :: (oL'.toList ++ (Bls os ++ [])))) :=
      ((((List.perm_append_comm_assoc oL'.toList oW.toList _).cons _).cons _).cons _).trans (perm3 _ _ _ _ _).symm
    refine rv_app (zs := tz) rfl ((H6.call ((Bel.refl w6).alloc _)).perm p7) qW (v := tkv T D2 dn2 dc2 A2 n2 c2 B2 m2 d2 F2 fn2 fc2) rfl rfl (Bk.new w6 _ _).at (by omega) (by omega) fun oW' AW' cW' w7 H7 qW' => ?_
    replace H7 := H7.perm ((perm3 _ _ _ _ _).trans ((((List.perm_append_comm_assoc oW'.toList oL'.toList _).cons _).cons _).cons _))
    refine let_as ((i + 1 : Nat) : Int) (by rw [w64 (by omega) (by omega)]; omega) ?_
    have kk := hk AL' (k' + 1) cL' AW' (k' + 1) cW' g7 (held + 800 + (fn1 : Int) + (m1 : Int) + (n1 : Int) + (dn1 : Int)) w7 ⟨oL', oW', es ++ [⟨T, a1, a2⟩], o, Z, zn, zc, C, cn, cc, A, n, c, B, m, d, os, cs', H7.tail.tail,
      by rw [List.flatMap_append, List.flatMap_singleton]; unfold En.a; rw [z1]; exact qL', by rw [List.flatMap_append, List.flatMap_singleton]; unfold En.w; rw [z2]; exact qW', by rw [List.length_append, hes]; rfl, rfl, fun e he => by
        rcases List.mem_append.1 he with he | he
        · exact (hok e he).mono isub
        · rw [List.mem_singleton.1 he]
          exact ⟨i1, i2, hT⟩, xo, ho, hs, by omega, by omega, by omega⟩
    with_reducible apply kk
  · refine let_as ((i + 1 : Nat) : Int) (by rw [w64 (by omega) (by omega)]; omega) ?_
    have kk := hk AL k' cL AW k' cW g7 (held + 800 + (fn1 : Int) + (m1 : Int) + (n1 : Int) + (dn1 : Int)) w5 ⟨oL, oW, es, o, Z, zn, zc, C, cn, cc, A, n, c, B, m, d, os, cs', H4.tail.tail, qL, qW, hes, rfl, fun e he => (hok e he).mono isub, xo, ho, hs, by omega, by omega, by omega⟩
    with_reducible apply kk
end Go.Proofs.YtchdcdmdbjkihaaDoorS
