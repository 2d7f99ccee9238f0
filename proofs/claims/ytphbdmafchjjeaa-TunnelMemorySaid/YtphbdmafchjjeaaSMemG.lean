/- Package weftlaw7: TunnelMemory: what it keeps; its end.
   Conditions: the arguments are as a row's arguments are. -/
import Derived.Test.YtphbdmafchjjeaaSMemF
import Derived.Test.YtphbdmafchjjeaaSFM2
import Derived.Test.YtphbdmafchjjeaaSFM3
namespace Go.Proofs.YtphbdmafchjjeaaS
open Go Go.RowKit Go.Proofs Go.Proofs.YtphbdmafchjjeaaX
set_option maxRecDepth 100000
set_option linter.unusedVariables false
set_option linter.unusedSectionVars false
set_option linter.unusedSimpArgs false

/-! ### memory of one's own beside lists that are read -/
section
variable {w0 a : World} {L : List Blk} {cs : List Lst}
theorem of_new {t : TypeId} {l : List Value} {K : Nat → World → Prop} (h : OF w0 a L cs) (hk : ∀ g w1, OF w0 w1 ((g, t, l) :: L) cs → K g w1) : Let a.heap.size fun g => Let (a.alloc (.cells l.toArray t)) (K g) := hk _ _ (h.new t l)
theorem set_same {α : Type} {l : List α} {k : Nat} {x : α} (h : l[k]? = some x) : l.set k x = l := by
  obtain ⟨h1, h2⟩ := List.getElem?_eq_some_iff.1 h
  rw [← h2]
  exact List.set_getElem_self h1
end
theorem fill_lk {w0 : World} {cs : List Lst} {g : Nat} {x : Int} (k : Nat) : ∀ (t : List Int) (q i : Nat) (w : World) (L : List Blk), t.length < q → i + t.length ≤ 1000000000 → OF w0 w L cs → L[k]? = some (g, 5, bv (List.replicate i x ++ t)) →
    weftlaw7_fill.L1 q (some ⟨g, 0, none⟩) (i + t.length) (i + t.length) x (i : Int) w (fun e w' => e = .returned (.tuple #[]) ∧ OF w0 w' (L.set k (g, 5, bv (List.replicate (i + t.length) x))) cs) := by
  intro t
  induction t with
  | nil =>
    intro q i w L hq hi H hk
    obtain ⟨q, rfl⟩ : ∃ k, q = k + 1 := ⟨q - 1, by simp at hq; omega⟩
    unfold weftlaw7_fill.L1; intros
    rw [weftlaw7_fill.l1_eq]
    refine ifF (by simp) ?_
    rw [List.append_nil] at hk
    refine ⟨rfl, ?_⟩
    have e : L.set k (g, 5, bv (List.replicate (i + ([] : List Int).length) x)) = L := set_same hk
    rw [e]
    exact H
  | cons y t ih =>
    intro q i w L hq hi H hk
    simp only [List.length_cons] at hq hi ⊢
    obtain ⟨q, rfl⟩ : ∃ k, q = k + 1 := ⟨q - 1, by omega⟩
    unfold weftlaw7_fill.L1; intros
    rw [weftlaw7_fill.l1_eq]
    refine ifT (by omega) ?_
    refine ⟨_, rfl, ⟨by omega, by omega⟩, ?_⟩
    rw [add_blk, Nat.zero_add, Int.toNat_natCast]
    refine of_set k H hk (by rw [bv_len, List.length_append, List.length_replicate, List.length_cons]; omega) fun w1 H1 => ?_
    refine let_as ((i + 1 : Nat) : Int) (by rw [w64 (by omega) (by omega)]; omega) ?_
    rw [bv_set, set_next _ _ _ _ (by simp), ← List.replicate_succ'] at H1
    have kk := ih q (i + 1) w1 _ (by omega) (by omega) H1 (List.getElem?_set_self (List.getElem?_eq_some_iff.1 hk).1)
    rw [show i + 1 + t.length = i + (t.length + 1) by omega, List.set_set] at kk
    exact kk ..
theorem fill_tk {w0 w : World} {L : List Blk} {cs : List Lst} (k : Nat) {g n : Nat} {l : List Int} (x : Int) (H : OF w0 w L cs) (hk : L[k]? = some (g, 5, bv l)) (hn : l.length = n) (hl : n ≤ 1000000000) :
    Calls Try.prog 14 #[.slice (some ⟨g, 0, none⟩) n n, .int .u8 x] w (fun e w' => e = .returned (.tuple #[]) ∧ OF w0 w' (L.set k (g, 5, bv (List.replicate n x))) cs) := by
  subst hn
  refine weftlaw7_fill.run ?_
  unfold weftlaw7_fill.s
  refine ⟨l.length + 1, ?_⟩
  have kk := fill_lk (g := g) (x := x) (cs := cs) (w0 := w0) k l (l.length + 1) 0 w L (by omega) (by omega) H hk
  rw [Nat.zero_add] at kk
  exact kk ..
theorem bk_rep {w : World} {g n : Nat} {x : Int} (h : Bk w g 5 (bv (List.replicate n x))) : By w (some ⟨g, 0, none⟩) n (List.replicate n x) := by
  have := h.by
  rwa [List.length_replicate] at this

/-! ### what TunnelMemory keeps -/
/-- Where its records, its answers and their copies lie. -/
structure Gs where
  g4 : Nat
  g5 : Nat
  g7 : Nat
  gs : Nat
  gr : Nat
  gu : Nat
  ga : Nat
  gc : Nat
  ge : Nat
  gb : Nat
  gd : Nat
  gf : Nat
  Aw : Option Addr
  Ao : Option Addr
  Au : Option Addr
/-- The call's arguments. -/
structure Ag where
  o : Ot
  f : Fr
  src : Int
  sp : Int
  dp : Int
  db : List Int
  A : Option Addr
  c : Nat
  D : Option Addr
  d : Nat
structure Ag.Ok (a : Ag) (w0 : World) : Prop where
  ho : a.o.Fine
  hf : a.f.Fine
  hs : 0 ≤ a.src ∧ a.src ≤ 4294967295
  hsp : 0 ≤ a.sp ∧ a.sp ≤ 65535
  hdp : 0 ≤ a.dp ∧ a.dp ≤ 65535
  yA : By w0 a.A a.f.body.length a.f.body
  nc : a.f.body.length ≤ a.c
  yD : By w0 a.D a.db.length a.db
  hbD : Bytes a.db
  md : a.db.length ≤ a.d
  m : a.db.length ≤ 65527
  z : sErr a.o a.f = 0
abbrev Ag.u (a : Ag) : List Int := uBytes a.src a.src a.sp a.dp a.db true
abbrev Ag.S (a : Ag) : Nat := (sOut a.o a.f).length
abbrev Ag.R (a : Ag) : Nat := a.f.bytes.length
abbrev Ag.U (a : Ag) : Nat := a.u.length
theorem Ag.Ok.S_le {a : Ag} {w0 : World} (h : a.Ok w0) : a.S ≤ 200000 := sOut_len
theorem Ag.Ok.R_le {a : Ag} {w0 : World} (h : a.Ok w0) : a.R ≤ 200000 := by
  have := ferr_len (sErr_zero h.z).2.2
  show a.f.bytes.length ≤ _
  rw [Fr.len]
  omega
theorem Ag.Ok.U_le {a : Ag} {w0 : World} (h : a.Ok w0) : a.U ≤ 200000 := by
  have : a.U = 8 + a.db.length := uRaw_len _ _ _ _
  have := h.m
  omega
theorem Ag.Ok.n_le {a : Ag} {w0 : World} (h : a.Ok w0) : a.f.body.length ≤ 65485 := ferr_len (sErr_zero h.z).2.2
/-- The memory: the answers' blocks with what they hold now, the records. -/
abbrev TmL (a : Ag) (G : Gs) (s r u b1 b2 b3 : List Int) : List Blk :=
  [(G.gs, 5, bv s), (G.gr, 5, bv r), (G.gu, 5, bv u), (G.ga, 5, bv b1), (G.gc, 5, bv b2), (G.ge, 5, bv b3), (G.gb, 31, fv a.f (some ⟨G.ga, 0, none⟩) a.f.body.length a.f.body.length), (G.gd, 31, fv a.f (some ⟨G.gc, 0, none⟩) a.f.body.length a.f.body.length),
    (G.gf, 33, dv a.sp a.dp (some ⟨G.ge, 0, none⟩) a.db.length a.db.length), (G.g7, 33, dv a.sp a.dp a.D a.db.length a.d), (G.g5, 31, fv a.f a.A a.f.body.length a.c), (G.g4, 26, ov a.o)]
/-- The copies. -/
abbrev TmC (a : Ag) (G : Gs) : List Lst := [(G.Aw, 0 + a.S, sOut a.o a.f), (G.Ao, 0 + a.R, a.f.bytes), (G.Au, 0 + a.U, a.u)]
/-- All are full of their marks. -/
def Fin6 (w0 : World) (a : Ag) (G : Gs) (w : World) : Prop := OF w0 w (TmL a G (List.replicate a.S 4) (List.replicate a.R 5) (List.replicate a.U 6) (List.replicate a.f.body.length 1) (List.replicate a.f.body.length 2) (List.replicate a.db.length 3)) (TmC a G)
section
variable {w0 : World} {a : Ag} (ok : a.Ok w0) {G : Gs}
theorem Fin6.call {w w' : World} (h : Fin6 w0 a G w) (k : Bel w w') : Fin6 w0 a G w' := OF.call h k
theorem Fin6.s {w : World} (h : Fin6 w0 a G w) : By w (some ⟨G.gs, 0, none⟩) a.S (List.replicate a.S 4) := bk_rep (h.own.bk 0 rfl)
theorem Fin6.r {w : World} (h : Fin6 w0 a G w) : By w (some ⟨G.gr, 0, none⟩) a.R (List.replicate a.R 5) := bk_rep (h.own.bk 1 rfl)
theorem Fin6.u {w : World} (h : Fin6 w0 a G w) : By w (some ⟨G.gu, 0, none⟩) a.U (List.replicate a.U 6) := bk_rep (h.own.bk 2 rfl)
theorem Fin6.b1 {w : World} (h : Fin6 w0 a G w) : By w (some ⟨G.ga, 0, none⟩) a.f.body.length (List.replicate a.f.body.length 1) := bk_rep (h.own.bk 3 rfl)
theorem Fin6.b2 {w : World} (h : Fin6 w0 a G w) : By w (some ⟨G.gc, 0, none⟩) a.f.body.length (List.replicate a.f.body.length 2) := bk_rep (h.own.bk 4 rfl)
theorem Fin6.b3 {w : World} (h : Fin6 w0 a G w) : By w (some ⟨G.ge, 0, none⟩) a.db.length (List.replicate a.db.length 3) := bk_rep (h.own.bk 5 rfl)
include ok
theorem tm_j9 {w : World} {cw co cu : Nat} (H : Fin6 w0 a G w) :
    weftlaw7_TunnelMemory.J9 a.src G.g4 G.g5 G.g7 (some ⟨G.gs, 0, none⟩) a.S a.S G.Aw (0 + a.S) cw (some ⟨G.gr, 0, none⟩) a.R a.R G.Ao (0 + a.R) co (some ⟨G.gu, 0, none⟩) a.U a.U G.Au (0 + a.U) cu
      (some ⟨G.ga, 0, none⟩) a.f.body.length a.f.body.length (some ⟨G.gs, 0, none⟩) a.S a.S (some ⟨G.gr, 0, none⟩) a.R a.R (some ⟨G.gu, 0, none⟩) a.U a.U w (Yes w0) := by
  have hS := ok.S_le
  have hR := ok.R_le
  have hU := ok.U_le
  have hn := ok.n_le
  have hm := ok.m
  have he := (sErr_zero ok.z).2.2
  unfold weftlaw7_TunnelMemory.J9; intros
  rw [weftlaw7_TunnelMemory.j9_eq]
  refine ld_ou (o := a.o) (H.own.bk 11 rfl) ?_
  refine ld_fr (f := a.f) (H.own.bk 10 rfl) ?_
  refine call_of (seal_o ok.ho ok.hf ok.z (ok.yA.bel H.own.bel)) ?_
  rintro e w1 ⟨h1, rfl, H1⟩
  refine ⟨_, _, _, _, rfl, ?_⟩
  replace H := H.call H1.bel
  refine ld_fr (f := a.f) (H.own.bk 10 rfl) ?_
  refine call_of (raw_o ok.hf he (ok.yA.bel H.own.bel)) ?_
  rintro e w2 ⟨h2, rfl, H2⟩
  refine ⟨_, _, _, _, rfl, ?_⟩
  replace H := H.call H2.bel
  refine ld_dg (a0 := a.sp) (a1 := a.dp) (H.own.bk 9 rfl) ?_
  refine call_of (u_o ok.hs ok.hsp ok.hdp ok.hbD hm (ok.yD.bel H.own.bel)) ?_
  rintro e w3 ⟨h3, rfl, H3⟩
  refine ⟨_, _, _, _, rfl, ?_⟩
  replace H := H.call H3.bel
  refine ifE (fun _ => ?_) (fun h => absurd rfl h)
  refine ifE (fun _ => ?_) (fun h => absurd rfl h)
  refine ifE (fun _ => ?_) (fun h => absurd rfl h)
  have yW := (OF.fz H _ (List.mem_cons_self)).1
  have yO := (OF.fz H _ (List.mem_cons_of_mem _ List.mem_cons_self)).1
  have yU := (OF.fz H _ (List.mem_cons_of_mem _ (List.mem_cons_of_mem _ List.mem_cons_self))).1
  have y1 := (((H1.bk 0 rfl).by).bel H2.bel).bel H3.bel
  have y2 := ((H2.bk 0 rfl).by).bel H3.bel
  have y3 := (H3.bk 0 rfl).by
  refine call_of (same_t y1 yW (by show a.S ≤ _; omega)) ?_
  rintro e w4 ⟨rfl, k4⟩
  refine ⟨_, rfl, ?_⟩
  refine ifB (fun _ => ?_) (fun h => by cases h)
  refine call_of (same_t (y2.bel k4) (yO.bel k4) (by show a.R ≤ _; omega)) ?_
  rintro e w5 ⟨rfl, k5⟩
  refine ⟨_, rfl, ?_⟩
  refine ifB (fun _ => ?_) (fun h => by cases h)
  refine call_of (same_t ((y3.bel k4).bel k5) ((yU.bel k4).bel k5) (by show a.U ≤ _; omega)) ?_
  rintro e w6 ⟨rfl, k6⟩
  refine ⟨_, rfl, ?_⟩
  refine ifB (fun _ => ?_) (fun h => by cases h)
  replace H := ((H.call k4).call k5).call k6
  refine call_of (full_t H.b1 (by omega)) ?_
  rintro e w7 ⟨rfl, k7⟩
  refine ⟨_, rfl, ?_⟩
  refine ifB (fun _ => ?_) (fun h => by cases h)
  replace H := H.call k7
  refine call_of (full_t H.s (by omega)) ?_
  rintro e w8' ⟨rfl, k8⟩
  refine ⟨_, rfl, ?_⟩
  refine ifB (fun _ => ?_) (fun h => by cases h)
  replace H := H.call k8
  refine call_of (full_t H.r (by omega)) ?_
  rintro e w9 ⟨rfl, k9⟩
  refine ⟨_, rfl, ?_⟩
  refine ifB (fun _ => ?_) (fun h => by cases h)
  replace H := H.call k9
  refine call_of (full_t H.u (by omega)) ?_
  rintro e w10 ⟨rfl, k10⟩
  refine ⟨_, rfl, ?_⟩
  refine ifB (fun _ => ?_) (fun h => by cases h)
  replace H := H.call k10
  refine call_of (full_t H.s (by omega)) ?_
  rintro e w11 ⟨rfl, k11⟩
  refine ⟨_, rfl, ?_⟩
  refine ifB (fun _ => ?_) (fun h => by cases h)
  replace H := H.call k11
  refine call_of (full_t H.r (by omega)) ?_
  rintro e w12 ⟨rfl, k12⟩
  refine ⟨_, rfl, ?_⟩
  refine ifB (fun _ => ?_) (fun h => by cases h)
  replace H := H.call k12
  refine call_of (full_t H.u (by omega)) ?_
  rintro e w13 ⟨rfl, k13⟩
  refine ⟨_, rfl, ?_⟩
  replace H := H.call k13
  exact ⟨rfl, H.own.bel⟩
end
end Go.Proofs.YtphbdmafchjjeaaS
