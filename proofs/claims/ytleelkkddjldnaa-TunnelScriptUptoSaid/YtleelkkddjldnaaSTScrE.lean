/- Package weftlaw7: a step of a script, without its kinds' joins.
   Conditions: none; every statement is proved here. -/
import Derived.Test.YtleelkkddjldnaaSTScrD
namespace Go.Proofs.YtleelkkddjldnaaS
open Go Go.RowKit Go.Proofs Go.Proofs.YtleelkkddjldnaaX
set_option maxRecDepth 100000
set_option linter.unusedVariables false
set_option linter.unusedSectionVars false
set_option linter.unusedSimpArgs false

theorem xor8 {x y : Int} (hx : 0 ≤ x ∧ x ≤ 255) (hy : 0 ≤ y ∧ y ≤ 255) : 0 ≤ Go.bits .xor .u8 x y ∧ Go.bits .xor .u8 x y ≤ 255 := by
  rw [u8_xor x y (by omega) (by omega) (by omega) (by omega)]
  have := Nat.xor_lt_two_pow (x := x.toNat) (y := y.toNat) (n := 8) (by omega) (by omega)
  omega
theorem wrap8 (x : Int) : 0 ≤ IntKind.u8.wrap x ∧ IntKind.u8.wrap x ≤ 255 := by
  rw [IntKind.wrap_u8]
  omega
theorem bytes_set {l : List Int} (h : Bytes l) {x : Int} (hx : 0 ≤ x ∧ x ≤ 255) (k : Nat) : Bytes (l.set k x) := fun u hu => by
  rcases List.mem_or_eq_of_mem_set hu with hu | rfl
  · exact h u hu
  · exact hx
section
variable {w0 w : World} {g : Nat} {Q : List Blk}
theorem Iv.loc (h : Iv w0 w g Q) (k i : Nat) {b : Nat} {t : TypeId} {l : List Value} {v : Value} (hk : Q[k]? = some (b, t, l)) (hv : l[i]? = some v) : w.cell? ⟨b, i, none⟩ = some v := by
  obtain ⟨ol, og, Al, nl, cl, last, As, ns, cs, sealed, f, Af, nf, cf, o, fz, G, t⟩ := h
  exact G.loc k i hk hv
/-- A copy of bytes becomes what was handed in last. -/
theorem new_last (h : Iv w0 w g Q) {A : Option Addr} {n : Nat} {l : List Int} (y : By w A n l) (hb : Bytes l) (hn : n ≤ 2000000) {K : World → Prop} (hK : ∀ w1, Iv w0 w1 g Q → K w1) :
    AppE w 1 1 5 [.int .u8 0] none 0 0 A n (fun A' c' w' => ∃ a : Addr, some ⟨g, 0, none⟩ = some a ∧ (MayC w' a ∧ Let (w'.setCell a (.slice A' (0 + n) c')) K)) := by
  obtain ⟨ol, og, Al, nl, cl, last, As, ns, cs, sealed, f, Af, nf, cf, o, fz, G, t1, t2, t3, t4, t5, t6, t7, t8, t9, t10⟩ := h
  refine buf_app (Buf.nil (Own.refl w)) y (by omega) fun A' c' wb q => ⟨_, rfl, ?_⟩
  obtain ⟨o', HO, S'⟩ := buf_sl q
  rw [List.append_nil] at HO
  rw [List.nil_append] at S'
  have p : (o'.toList ++ (Q ++ (ol.toList ++ og.toList))).Perm (ol.toList ++ (Q ++ (o'.toList ++ og.toList))) := ((List.perm_append_comm_assoc _ _ _).trans ((List.perm_append_comm_assoc _ _ _).append_left _)).trans (List.perm_append_comm_assoc _ _ _)
  refine ((G.join HO).permR p).drop.setLast fun w1 G1 => hK w1 ?_
  exact ⟨o', og, A', 0 + n, c', l, As, ns, cs, sealed, f, Af, nf, cf, o, fz, G1, S', t2, hb, by omega, t5, t6, t7, t8, t9, t10⟩
end
/-- A step. -/
def opv (kind : Int) (o : Ot) (f : Fr) (A : Option Addr) (n c : Nat) (x : Item) (B : Option Addr) (m d : Nat) (E : Option Addr) (p q : Nat) (D : Option Addr) (r s : Nat) (at_ : Int) : List Value :=
  [.int .i64 kind, .int .u32 o.src, .int .u32 o.dst, .int .u16 o.sp, .int .u16 o.dp, .int .u8 o.ttl, .int .i64 o.vni,
    .int .u8 f.d0, .int .u8 f.d1, .int .u8 f.d2, .int .u8 f.d3, .int .u8 f.d4, .int .u8 f.d5, .int .u8 f.s0, .int .u8 f.s1, .int .u8 f.s2, .int .u8 f.s3, .int .u8 f.s4, .int .u8 f.s5, .int .u16 f.typ, .slice A n c,
    .int .u32 x.src, .int .u32 x.dst, .int .u16 x.sp, .int .u16 x.dp, .slice B m d, .bool x.on, .slice E p q, .slice D r s, .int .i64 at_]
section
variable {w0 w : World} {g : Nat} {kind : Int} {o : Ot} {f : Fr} {A : Option Addr} {n c : Nat} {x : Item} {B : Option Addr} {m d : Nat} {E : Option Addr} {p q : Nat} {D : Option Addr} {r s : Nat} {at_ : Int}
/-- A step's answer is the document's, and what holds between the steps holds. -/
abbrev Stp (w0 : World) (g : Nat) (e : Ending) (w' : World) : Prop := e = .returned (.bool true) ∧ Iv w0 w' g []
theorem plays_j2 {wa : World} {g1 : Nat} (hx : x.Fine) (h : Iv w0 wa g [(g1, 76, opv kind o f A n c x B m d E p q D r s at_)]) : weftlaw7_steps_plays.J2 (some ⟨g, 0, none⟩) g1 wa (Stp w0 g) := by
  unfold weftlaw7_steps_plays.J2; intros
  rw [weftlaw7_steps_plays.j2_eq]
  refine ⟨x.src, h.loc 0 21 rfl rfl, x.dst, h.loc 0 22 rfl rfl, ?_⟩
  refine call_of (asks_v h hx.src hx.dst) ?_
  rintro e w1 ⟨rfl, h⟩
  exact ⟨_, rfl, rfl, h⟩
theorem plays_j4 {wa : World} {g1 : Nat} (h : Iv w0 wa g [(g1, 76, opv kind o f A n c x B m d E p q D r s at_)]) : weftlaw7_steps_plays.J4 (some ⟨g, 0, none⟩) wa (Stp w0 g) := by
  unfold weftlaw7_steps_plays.J4; intros
  rw [weftlaw7_steps_plays.j4_eq]
  refine call_of (writes_v h) ?_
  rintro e w1 ⟨rfl, h⟩
  exact ⟨_, rfl, rfl, h⟩
theorem plays_j1 {wa : World} {g1 : Nat} (hx : x.Fine) {ol og : Option Blk} {Al : Option Addr} {nl cl : Nat} {last : List Int} {As : Option Addr} {ns cs : Nat} {sealed : List Int} {f' : Fr} {Af : Option Addr} {nf cf : Nat} {o' : Ot} {fz : List Lst}
    (G : Gd w0 wa g ([(g1, 76, opv kind o f A n c x B m d E p q D r s at_)] ++ (ol.toList ++ og.toList)) fz Al nl cl As ns cs f' Af nf cf o') (t1 : SL ol Al nl cl last) (t2 : SL og Af nf cf f'.body) (t3 : Bytes last) (t4 : nl ≤ 2000000) (t5 : f'.Fine) (t6 : o'.Fine) (t7 : nf ≤ 2000000) (t8 : (As, ns, sealed) ∈ fz) (t9 : Bytes sealed) (t10 : ns ≤ 300000)
    {i : Int} (h0 : 0 ≤ i) (hi : i < (nl : Int)) : weftlaw7_steps_plays.J1 (some ⟨g, 0, none⟩) g1 i wa (Stp w0 g) := by
  unfold weftlaw7_steps_plays.J1; intros
  rw [weftlaw7_steps_plays.j1_eq]
  have pm : ([(g1, 76, opv kind o f A n c x B m d E p q D r s at_)] ++ (ol.toList ++ og.toList)).Perm (ol.toList ++ ([(g1, 76, opv kind o f A n c x B m d E p q D r s at_)] ++ og.toList)) := List.perm_append_comm_assoc _ _ _
  have yl : ∀ {wb : World}, Gd w0 wb g ([(g1, 76, opv kind o f A n c x B m d E p q D r s at_)] ++ (ol.toList ++ og.toList)) fz Al nl cl As ns cs f' Af nf cf o' → By wb Al nl last := fun G => by
    obtain ⟨P, HP⟩ := (G.permR pm).ownP
    exact (SL.by (M := P ++ ([(g1, 76, opv kind o f A n c x B m d E p q D r s at_)] ++ og.toList)) (HP.perm (List.perm_append_comm_assoc _ _ _)) t1).1
  refine draws (fun w' => Gd w0 w' g ([(g1, 76, opv kind o f A n c x B m d E p q D r s at_)] ++ (ol.toList ++ og.toList)) fz Al nl cl As ns cs f' Af nf cf o') (G.call (Bel.refl wa).drew) fun w2 e2 => ?_
  replace G := G.call (Bel.refl wa).drew
  rw [← e2] at G
  obtain ⟨b, eb, K⟩ := (G.permR pm).byte t1 (k := i.toNat) (by omega)
  refine ⟨_, rfl, Al, nl, cl, fun w' G' => G'.cell 0 (by decide) rfl, _, rfl, Al, nl, cl, fun w' G' => G'.cell 0 (by decide) rfl, ?_⟩
  refine ⟨_, eb, ⟨h0, hi⟩, last.getD i.toNat 0, fun w' G' => ?_, at_, fun w' G' => G'.loc 0 29 rfl rfl, ?_⟩
  · obtain ⟨a', e', hc⟩ := (yl G').2 (by omega)
    rw [eb] at e'
    injection e' with e'
    rw [e']
    exact hc _ (by omega)
  refine let_as _ rfl (let_as _ rfl (let_as _ rfl ?_))
  have hxr := xor8 (t3.getD i.toNat) (wrap8 (IntKind.i64.wrap (1 + at_)))
  refine ⟨_, eb, ⟨h0, hi⟩, ?_⟩
  rw [add_blk, Nat.zero_add]
  refine K fun w3 ol' G3 S3 => ?_
  have I3 : Iv w0 w3 g [(g1, 76, opv kind o f A n c x B m d E p q D r s at_)] := ⟨ol', og, Al, nl, cl, _, As, ns, cs, sealed, f', Af, nf, cf, o', fz, G3.permR (List.perm_append_comm_assoc _ _ _), S3, t2, bytes_set t3 hxr _, t4, t5, t6, t7, t8, t9, t10⟩
  have k := plays_j2 hx I3
  exact ⟨by with_reducible apply k⟩
theorem plays_j3 {wa : World} {g1 : Nat} {ol og : Option Blk} {Al : Option Addr} {nl cl : Nat} {last : List Int} {As : Option Addr} {ns cs : Nat} {sealed : List Int} {f' : Fr} {Af : Option Addr} {nf cf : Nat} {o' : Ot} {fz : List Lst}
    (G : Gd w0 wa g ([(g1, 76, opv kind o f A n c x B m d E p q D r s at_)] ++ (ol.toList ++ og.toList)) fz Al nl cl As ns cs f' Af nf cf o') (t1 : SL ol Al nl cl last) (t2 : SL og Af nf cf f'.body) (t3 : Bytes last) (t4 : nl ≤ 2000000) (t5 : f'.Fine) (t6 : o'.Fine) (t7 : nf ≤ 2000000) (t8 : (As, ns, sealed) ∈ fz) (t9 : Bytes sealed) (t10 : ns ≤ 300000)
    {i : Int} (h0 : 0 ≤ i) (hi : i < (nf : Int)) : weftlaw7_steps_plays.J3 (some ⟨g, 0, none⟩) g1 i wa (Stp w0 g) := by
  unfold weftlaw7_steps_plays.J3; intros
  rw [weftlaw7_steps_plays.j3_eq]
  have pm : ([(g1, 76, opv kind o f A n c x B m d E p q D r s at_)] ++ (ol.toList ++ og.toList)).Perm (og.toList ++ ([(g1, 76, opv kind o f A n c x B m d E p q D r s at_)] ++ ol.toList)) := (List.perm_append_comm.append_left _).trans (List.perm_append_comm_assoc _ _ _)
  have yl : ∀ {wb : World}, Gd w0 wb g ([(g1, 76, opv kind o f A n c x B m d E p q D r s at_)] ++ (ol.toList ++ og.toList)) fz Al nl cl As ns cs f' Af nf cf o' → By wb Af nf f'.body := fun G => by
    obtain ⟨P, HP⟩ := (G.permR pm).ownP
    exact (SL.by (M := P ++ ([(g1, 76, opv kind o f A n c x B m d E p q D r s at_)] ++ ol.toList)) (HP.perm (List.perm_append_comm_assoc _ _ _)) t2).1
  have aS : ∀ {wb : World}, Gd w0 wb g ([(g1, 76, opv kind o f A n c x B m d E p q D r s at_)] ++ (ol.toList ++ og.toList)) fz Al nl cl As ns cs f' Af nf cf o' → wb.cell? (((⟨g, 0, none⟩ : Addr).add 2).add 13) = some (.slice Af nf cf) := fun G => by
    rw [add_blk, add_blk]
    exact G.cell 15 (by decide) rfl
  refine draws (fun w' => Gd w0 w' g ([(g1, 76, opv kind o f A n c x B m d E p q D r s at_)] ++ (ol.toList ++ og.toList)) fz Al nl cl As ns cs f' Af nf cf o') (G.call (Bel.refl wa).drew) fun w2 e2 => ?_
  replace G := G.call (Bel.refl wa).drew
  rw [← e2] at G
  obtain ⟨b, eb, K⟩ := (G.permR pm).byte t2 (k := i.toNat) (by omega)
  refine ⟨_, rfl, Af, nf, cf, fun w' G' => aS G', _, rfl, Af, nf, cf, fun w' G' => aS G', ?_⟩
  refine ⟨_, eb, ⟨h0, hi⟩, f'.body.getD i.toNat 0, fun w' G' => ?_, at_, fun w' G' => G'.loc 0 29 rfl rfl, ?_⟩
  · obtain ⟨a', e', hc⟩ := (yl G').2 (by omega)
    rw [eb] at e'
    injection e' with e'
    rw [e']
    exact hc _ (by omega)
  refine let_as _ rfl (let_as _ rfl (let_as _ rfl ?_))
  have hxr := xor8 (t5.body.getD i.toNat) (wrap8 (IntKind.i64.wrap (1 + at_)))
  refine ⟨_, eb, ⟨h0, hi⟩, ?_⟩
  rw [add_blk, Nat.zero_add]
  refine K fun w3 og' G3 S3 => ?_
  generalize Go.bits .xor .u8 (f'.body.getD i.toNat 0) (IntKind.u8.wrap (IntKind.i64.wrap (1 + at_))) = v at *
  have G4 : Gd w0 w3 g ([(g1, 76, opv kind o f A n c x B m d E p q D r s at_)] ++ (ol.toList ++ og'.toList)) fz Al nl cl As ns cs ⟨f'.d0, f'.d1, f'.d2, f'.d3, f'.d4, f'.d5, f'.s0, f'.s1, f'.s2, f'.s3, f'.s4, f'.s5, f'.typ, f'.body.set i.toNat v⟩ Af nf cf o' :=
    G3.permR ((List.perm_append_comm_assoc _ _ _).trans (List.perm_append_comm.append_left _))
  have I3 : Iv w0 w3 g [(g1, 76, opv kind o f A n c x B m d E p q D r s at_)] := ⟨ol, og', Al, nl, cl, last, As, ns, cs, sealed, _, Af, nf, cf, o', fz, G4, t1, S3, t3, t4, ⟨t5.macs, t5.typ, bytes_set t5.body hxr _, by show (f'.body.set i.toNat v).length ≤ _; rw [List.length_set]; exact t5.lb⟩, t6, t7, t8, t9, t10⟩
  have k := plays_j4 (x := x) I3
  exact ⟨by with_reducible apply k⟩
end
end Go.Proofs.YtleelkkddjldnaaS
