/- Package weftlaw3: Ip4Script, the steps one after another.
   Conditions: the script is as a row's argument is. -/
import Derived.Test.YtchdcdmdbjkihaaSISD
namespace Go.Proofs.YtchdcdmdbjkihaaS
open Go Go.RowKit Go.Proofs Go.Proofs.YtchdcdmdbjkihaaX
set_option maxRecDepth 100000
set_option linter.unusedVariables false
set_option linter.unusedSectionVars false
set_option linter.unusedSimpArgs false

/-- An answer that is kept, and the document's. -/
structure En where
  T : Tk
  A : Option Addr
  n : Nat
  c : Nat
  B : Option Addr
  m : Nat
  d : Nat
  A' : Option Addr
  n' : Nat
  c' : Nat
  B' : Option Addr
  m' : Nat
  d' : Nat
def En.a (e : En) : List Value := tkv e.T e.A e.n e.c e.B e.m e.d
def En.w (e : En) : List Value := tkv e.T e.A' e.n' e.c' e.B' e.m' e.d'
theorem En.a_len (e : En) : e.a.length = 13 := rfl
theorem En.w_len (e : En) : e.w.length = 13 := rfl
structure En.Ok (e : En) (cs : List Lst) : Prop where
  a : (e.A, e.n, e.T.p.opts) ∈ cs
  b : (e.B, e.m, e.T.p.body) ∈ cs
  a' : (e.A', e.n', e.T.p.opts) ∈ cs
  b' : (e.B', e.m', e.T.p.body) ∈ cs
  c : e.n ≤ e.c
  d : e.m ≤ e.d
  c' : e.n' ≤ e.c'
  d' : e.m' ≤ e.d'
  ln : e.n ≤ 1000000000
  lm : e.m ≤ 1000000000
theorem En.Ok.mono {e : En} {cs cs' : List Lst} (h : e.Ok cs) (k : cs ⊆ cs') : e.Ok cs' := ⟨k h.a, k h.b, k h.a', k h.b', h.c, h.d, h.c', h.d', h.ln, h.lm⟩
theorem OF.pk {w0 w : World} {L : List Blk} {cs : List Lst} {p : Pk} {A : Option Addr} {n c : Nat} {B : Option Addr} {m d : Nat} (h : OF w0 w L cs) (a : (A, n, p.opts) ∈ cs) (b : (B, m, p.body) ∈ cs) (hc : n ≤ c) (hd : m ≤ d) : PkAt w p A n c B m d := ⟨(h.fz _ a).1, (h.fz _ b).1, hc, hd⟩
theorem tld_len {o : Op3} (ho : o.Fine) : (tldOf o).p.opts.length ≤ 1000000000 ∧ (tldOf o).p.body.length ≤ 1000000000 := by
  have h1 := ho.lb
  have h2 := pkOut_len (b := o.b)
  have h3 := pePk_len (b := o.b)
  have h4 := bldL_len (p := o.p)
  have h5 := ageL_len ho.b (by omega)
  have h6 := copL_len (o := o.b)
  have z : pz.opts.length ≤ 1000000000 ∧ pz.body.length ≤ 1000000000 := ⟨Nat.zero_le _, Nat.zero_le _⟩
  unfold tldOf
  split
  · exact z
  split
  · exact z
  split
  · exact ⟨by show (pkOut o.b).opts.length ≤ _; omega, by show (pkOut o.b).body.length ≤ _; omega⟩
  split
  · exact ⟨by show (pePk o.b).opts.length ≤ _; omega, by show (pePk o.b).body.length ≤ _; omega⟩
  split
  · exact ⟨z.1, by show (bldL o.p).length ≤ _; omega⟩
  split
  · exact ⟨z.1, by show (ageL o.b).length ≤ _; omega⟩
  split
  · exact ⟨z.1, by show (copL o.b).length ≤ _; omega⟩
  exact z
/-- What holds between the steps; k: how many are kept. -/
def Iv (w0 w : World) (g7 : Nat) (AL : Option Addr) (k cL : Nat) (AW : Option Addr) (k' cW : Nat) (held : Int) (i : Nat) : Prop :=
  ∃ (oL oW oP : Option Blk) (es : List En) (o : Op3) (Z : Option Addr) (zn zc : Nat) (Y : Option Addr) (yn yc : Nat) (A : Option Addr) (n c : Nat) (B : Option Addr) (m d : Nat) (os : List (Option Blk)) (ls : List LC) (cs : List Lst),
    OF w0 w ((g7, 39, opv o Z zn zc Y yn yc A n c B m d) :: (oL.toList ++ (oW.toList ++ (oP.toList ++ (Bls os ++ []))))) cs ∧ RV 52 13 oL AL k cL (es.flatMap En.a) ∧ RV 52 13 oW AW k' cW (es.flatMap En.w) ∧ es.length = k ∧ k' = k ∧
    (∀ e ∈ es, e.Ok cs) ∧ XO oP os o Z zn zc Y yn yc A n c B m d ls ∧ o.Fine ∧ o.Sm ∧ 800 * (k : Int) ≤ held ∧ 800 * (k : Int) ≤ 33554432 ∧ held ≤ 3000000000 * (i : Int)
theorem perm3 {α : Type} (o X : List α) (a b c : α) : (o ++ (a :: b :: c :: X)).Perm (a :: b :: c :: (o ++ X)) := List.perm_middle.trans ((perm2 _ _ _ _).cons _)
theorem Script_l2 {w0 : World} {AL : Option Addr} {k cL : Nat} {AW : Option Addr} {cW : Nat} {L : List Blk} {oL oW : Option Blk} {cs : List Lst} {es : List En} (qL : RV 52 13 oL AL k cL (es.flatMap En.a)) (qW : RV 52 13 oW AW k cW (es.flatMap En.w)) (hes : es.length = k) (hok : ∀ e ∈ es, e.Ok cs) (hk : k ≤ 100000000) : ∀ (q i : Nat) (w : World), k - i < q → i ≤ k →
    OF w0 w (oL.toList ++ (oW.toList ++ L)) cs → weftlaw3_Ip4Script.L2 q AL k cL AW k cW (i : Int) w (Yes w0) := by
  intro q
  induction q with
  | zero => intro i w h; omega
  | succ q ih =>
    intro i w hq hi H
    unfold weftlaw3_Ip4Script.L2; intros
    rw [weftlaw3_Ip4Script.l2_eq]
    refine ifD (fun h1 => ?_) (fun h1 => ⟨rfl, H.own.bel⟩)
    have hi2 : i < k := by omega
    refine draws (fun w' => OF w0 w' (oL.toList ++ (oW.toList ++ L)) cs) (H.call (Bel.refl w).drew) fun w2 e2' => ?_
    replace H := H.call (Bel.refl w).drew
    rw [← e2'] at H
    have hx : es[i]? = some es[i] := List.getElem?_eq_getElem (by omega)
    have ho := hok es[i] (List.getElem_mem _)
    generalize es[i] = e at hx ho
    obtain ⟨b1, e1, r1⟩ := qL.rdb hi2 (by decide)
    obtain ⟨b2, e2, r2⟩ := qW.rdb hi2 (by decide)
    have hl1 : e.n ≤ 1000000000 := ho.ln
    have hl2 : e.m ≤ 1000000000 := ho.lm
    refine ⟨_, e1, ⟨by omega, by omega⟩, ?_⟩
    rw [Int.toNat_natCast, add_blk, Nat.zero_add]
    refine ⟨_, _, _, _, _, _, _, _, _, _, _, _, _, _, _, _, _, ⟨rfl, fun w' h => r1 (u := e.a) h.own (fm_at En.a En.a_len hx)⟩, ?_⟩
    refine ⟨_, e2, ⟨by omega, by omega⟩, ?_⟩
    rw [add_blk, Nat.zero_add]
    refine ⟨_, _, _, _, _, _, _, _, _, _, _, _, _, _, _, _, _, ⟨rfl, fun w' h => r2 (u := e.w) (h.perm (List.perm_append_comm_assoc _ _ _)).own (fm_at En.w En.w_len hx)⟩, ?_⟩
    refine call_of (agree_t (T := e.T) (H.pk ho.a ho.b ho.c ho.d) (H.pk ho.a' ho.b' ho.c' ho.d') (by omega) (by omega)) ?_
    rintro z w3 ⟨rfl, k3⟩
    refine ⟨_, rfl, H.call k3, ifNot (fun h => by cases h) (fun _ => ?_)⟩
    refine let_as ((i + 1 : Nat) : Int) (by rw [w64 (by omega) (by omega)]; omega) ?_
    have kk := ih (i + 1) w3 (by omega) (by omega) (H.call k3)
    with_reducible apply kk
theorem OF.adds {w0 w w' : World} {L : List Blk} {cs : List Lst} {T : Tk} {A : Option Addr} {n c : Nat} {B : Option Addr} {m d : Nat} (h : OF w0 w L cs) (k : Bel w w') (y : PkAt w' T.p A n c B m d) (f1 : 0 < n → Fre w A) (f2 : 0 < m → Fre w B) : OF w0 w' L ((A, n, T.p.opts) :: (B, m, T.p.body) :: cs) :=
  ((h.call k).add (x := (B, m, T.p.body)) y.body (fun hm => h.new_ne (f2 hm))).add (x := (A, n, T.p.opts)) y.opts (fun hn => h.new_ne (f1 hn))
theorem Script_j3 {w0 : World} {X : Option Addr} {xn xc : Nat} {X' : Option Addr} {xn' xc' : Nat} {m0 i : Nat} (hi : i < 10000000)
    (hk : ∀ (AL : Option Addr) (k cL : Nat) (AW : Option Addr) (k' cW : Nat) (g7 : Nat) (held : Int) (w : World), Iv w0 w g7 AL k cL AW k' cW held (i + 1) → weftlaw3_Ip4Script.L1 m0 X xn xc X' xn' xc' AL k cL AW k' cW g7 held ((i + 1 : Nat) : Int) w (Yes w0))
    {AL : Option Addr} {k cL : Nat} {AW : Option Addr} {k' cW : Nat} {g7 : Nat} {held : Int} {w : World} (I : Iv w0 w g7 AL k cL AW k' cW held i) : weftlaw3_Ip4Script.J3 m0 X xn xc X' xn' xc' AL k cL AW k' cW g7 held (i : Int) w (Yes w0) := by
  obtain ⟨oL, oW, oP, es, o, Z, zn, zc, Y, yn, yc, A, n, c, B, m, d, os, ls, cs, H, qL, qW, hes, rfl, hok, xo, ho, hs, h1, h2, h3⟩ := I
  unfold weftlaw3_Ip4Script.J3; intros
  rw [weftlaw3_Ip4Script.j3_eq]
  have hl := tld_len ho
  have sub : ∀ {w : World} {M : List Blk} {cs : List Lst}, OF w0 w (M ++ (oL.toList ++ (oW.toList ++ (oP.toList ++ (Bls os ++ []))))) cs → OpAt w o Z zn zc Y yn yc A n c B m d := fun h => XO.at (OF.less (L := oW.toList) (OF.less (L := oL.toList) (OF.less h))).own xo
  have hx0 : OpAt w o Z zn zc Y yn yc A n c B m d := sub (M := [_]) H
  have l1 := hx0.p.opts.len
  have l2 := hx0.p.body.len
  have l3 := hs.lo
  have l4 := hs.lb
  refine ⟨_, _, _, _, _, _, _, _, _, _, _, _, _, _, _, _, _, _, _, _, _, _, _, _, _, ⟨rfl, (H.own.bk 0 rfl).at⟩, ?_⟩
  refine call_of (ran_t ho hx0) ?_
  rintro e w1 ⟨k1, A1, n1, c1, B1, m1, d1, rfl, y1, f1, f2⟩
  have H1 := H.adds k1 y1 f1 f2
  refine ⟨_, _, _, _, _, _, _, _, _, _, _, _, _, _, _, _, _, rfl, ?_⟩
  refine of_mk tz H1 rfl rfl fun g33 w2 H2 => ?_
  refine ⟨_, _, _, _, _, _, _, _, _, _, _, _, _, _, _, _, _, _, _, _, _, _, _, _, _, ⟨rfl, (H2.own.bk 1 rfl).at⟩, ?_⟩
  refine call_of (meant_t ho (sub (M := [_, _]) H2) (by omega) (by omega)) ?_
  rintro e w3 ⟨k3, A2, n2, c2, B2, m2, d2, rfl, y2, f3, f4⟩
  have H3 := H2.adds k3 y2 f3 f4
  refine ⟨_, _, _, _, _, _, _, _, _, _, _, _, _, _, _, _, _, rfl, ?_⟩
  refine of_mk tz H3 rfl rfl fun g68 w4 H4 => ?_
  replace H4 : OF w0 w4 ((g68, 52, tkv (tldOf o) A2 n2 c2 B2 m2 d2) :: (g33, 52, tkv (tldOf o) A1 n1 c1 B1 m1 d1) :: (g7, 39, opv o Z zn zc Y yn yc A n c B m d) :: (oL.toList ++ (oW.toList ++ (oP.toList ++ (Bls os ++ []))))) _ := H4
  have en1 := y1.opts.len
  have em1 := y1.body.len
  have i1 : (A1, n1, (tldOf o).p.opts) ∈ ((A2, n2, (tldOf o).p.opts) :: (B2, m2, (tldOf o).p.body) :: (A1, n1, (tldOf o).p.opts) :: (B1, m1, (tldOf o).p.body) :: cs : List Lst) := List.mem_cons_of_mem _ (List.mem_cons_of_mem _ List.mem_cons_self)
  have i2 : (B1, m1, (tldOf o).p.body) ∈ ((A2, n2, (tldOf o).p.opts) :: (B2, m2, (tldOf o).p.body) :: (A1, n1, (tldOf o).p.opts) :: (B1, m1, (tldOf o).p.body) :: cs : List Lst) := List.mem_cons_of_mem _ (List.mem_cons_of_mem _ (List.mem_cons_of_mem _ List.mem_cons_self))
  have i3 : (A2, n2, (tldOf o).p.opts) ∈ ((A2, n2, (tldOf o).p.opts) :: (B2, m2, (tldOf o).p.body) :: (A1, n1, (tldOf o).p.opts) :: (B1, m1, (tldOf o).p.body) :: cs : List Lst) := List.mem_cons_self
  have i4 : (B2, m2, (tldOf o).p.body) ∈ ((A2, n2, (tldOf o).p.opts) :: (B2, m2, (tldOf o).p.body) :: (A1, n1, (tldOf o).p.opts) :: (B1, m1, (tldOf o).p.body) :: cs : List Lst) := List.mem_cons_of_mem _ List.mem_cons_self
  have isub : cs ⊆ ((A2, n2, (tldOf o).p.opts) :: (B2, m2, (tldOf o).p.body) :: (A1, n1, (tldOf o).p.opts) :: (B1, m1, (tldOf o).p.body) :: cs : List Lst) := fun x hx => List.mem_cons_of_mem _ (List.mem_cons_of_mem _ (List.mem_cons_of_mem _ (List.mem_cons_of_mem _ hx)))
  generalize ((A2, n2, (tldOf o).p.opts) :: (B2, m2, (tldOf o).p.body) :: (A1, n1, (tldOf o).p.opts) :: (B1, m1, (tldOf o).p.body) :: cs : List Lst) = cs' at H4 i1 i2 i3 i4 isub
  refine ⟨_, _, _, _, _, _, _, _, _, _, _, _, _, _, _, _, _, ⟨rfl, (H4.own.bk 1 rfl).at⟩, ?_⟩
  refine ⟨_, _, _, _, _, _, _, _, _, _, _, _, _, _, _, _, _, ⟨rfl, (H4.own.bk 0 rfl).at⟩, ?_⟩
  refine call_of (agree_t (T := tldOf o) (H4.pk i1 i2 y1.co y1.cb) (H4.pk i3 i4 y2.co y2.cb) (by omega) (by omega)) ?_
  rintro z w5 ⟨rfl, k5⟩
  replace H4 := H4.call k5
  refine ⟨_, rfl, ifNot (fun h => by cases h) (fun _ => ?_)⟩
  refine let_as (held + 800) (w64 (by omega) (by omega)) ?_
  refine ⟨_, _, _, H4.own.cell 1 10 rfl rfl, ?_⟩
  refine let_as (held + 800 + (m1 : Int)) (w64 (by omega) (by omega)) ?_
  refine ⟨_, _, _, H4.own.cell 1 9 rfl rfl, ?_⟩
  refine let_as (held + 800 + (m1 : Int) + (n1 : Int)) (w64 (by omega) (by omega)) ?_
  refine ifD (fun h5 => ?_) (fun h5 => ?_)
  · refine ⟨_, _, _, _, _, _, _, _, _, _, _, _, _, _, _, _, _, ⟨rfl, (H4.own.bk 1 rfl).at⟩, ?_⟩
    refine let_as w5.heap.size rfl (let_as (w5.alloc (.cells (tkv (tldOf o) A1 n1 c1 B1 m1 d1).toArray 52)) rfl ?_)
    refine rv_app (zs := tz) rfl ((H4.call ((Bel.refl w5).alloc _)).perm (perm3 _ _ _ _ _).symm) qL (v := tkv (tldOf o) A1 n1 c1 B1 m1 d1) rfl rfl (Bk.new w5 _ _).at (by omega) (by omega) fun oL' AL' cL' w6 H6 qL' => ?_
    replace H6 := H6.perm (perm3 _ _ _ _ _)
    refine ⟨_, _, _, _, _, _, _, _, _, _, _, _, _, _, _, _, _, ⟨rfl, (H6.own.bk 0 rfl).at⟩, ?_⟩
    refine let_as w6.heap.size rfl (let_as (w6.alloc (.cells (tkv (tldOf o) A2 n2 c2 B2 m2 d2).toArray 52)) rfl ?_)
    have p7 : ((g68, 52, tkv (tldOf o) A2 n2 c2 B2 m2 d2) :: (g33, 52, tkv (tldOf o) A1 n1 c1 B1 m1 d1) :: (g7, 39, opv o Z zn zc Y yn yc A n c B m d) :: (oL'.toList ++ (oW.toList ++ (oP.toList ++ (Bls os ++ []))))).Perm (oW.toList ++ ((g68, 52, tkv (tldOf o) A2 n2 c2 B2 m2 d2) :: (g33, 52, tkv (tldOf o) A1 n1 c1 B1 m1 d1) :: (g7, 39, opv o Z zn zc Y yn yc A n c B m d) :: (oL'.toList ++ (oP.toList ++ (Bls os ++ []))))) :=
      ((((List.perm_append_comm_assoc oL'.toList oW.toList _).cons _).cons _).cons _).trans (perm3 _ _ _ _ _).symm
    refine rv_app (zs := tz) rfl ((H6.call ((Bel.refl w6).alloc _)).perm p7) qW (v := tkv (tldOf o) A2 n2 c2 B2 m2 d2) rfl rfl (Bk.new w6 _ _).at (by omega) (by omega) fun oW' AW' cW' w7 H7 qW' => ?_
    replace H7 := H7.perm ((perm3 _ _ _ _ _).trans ((((List.perm_append_comm_assoc oW'.toList oL'.toList _).cons _).cons _).cons _))
    refine let_as ((i + 1 : Nat) : Int) (by rw [w64 (by omega) (by omega)]; omega) ?_
    have kk := hk AL' (k' + 1) cL' AW' (k' + 1) cW' g7 (held + 800 + (m1 : Int) + (n1 : Int)) w7 ⟨oL', oW', oP, es ++ [⟨tldOf o, A1, n1, c1, B1, m1, d1, A2, n2, c2, B2, m2, d2⟩], o, Z, zn, zc, Y, yn, yc, A, n, c, B, m, d, os, ls, cs', H7.tail.tail,
      by rw [List.flatMap_append, List.flatMap_singleton]; exact qL', by rw [List.flatMap_append, List.flatMap_singleton]; exact qW', by rw [List.length_append, hes]; rfl, rfl, fun e he => by
        rcases List.mem_append.1 he with he | he
        · exact (hok e he).mono isub
        · rw [List.mem_singleton.1 he]
          exact ⟨i1, i2, i3, i4, y1.co, y1.cb, y2.co, y2.cb, by show n1 ≤ _; omega, by show m1 ≤ _; omega⟩, xo, ho, hs, by omega, by omega, by omega⟩
    with_reducible apply kk
  · refine let_as ((i + 1 : Nat) : Int) (by rw [w64 (by omega) (by omega)]; omega) ?_
    have kk := hk AL k' cL AW k' cW g7 (held + 800 + (m1 : Int) + (n1 : Int)) w5 ⟨oL, oW, oP, es, o, Z, zn, zc, Y, yn, yc, A, n, c, B, m, d, os, ls, cs', H4.tail.tail, qL, qW, hes, rfl, fun e he => (hok e he).mono isub, xo, ho, hs, by omega, by omega, by omega⟩
    with_reducible apply kk
end Go.Proofs.YtchdcdmdbjkihaaS
