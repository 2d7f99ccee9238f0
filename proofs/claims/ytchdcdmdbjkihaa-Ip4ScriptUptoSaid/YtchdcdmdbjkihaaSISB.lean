/- Package weftlaw3, script.go: what a call answers, the program's and the document's alike.
   Conditions: the arguments are as a row's arguments are. -/
import Derived.Test.YtchdcdmdbjkihaaSISA
namespace Go.Proofs.YtchdcdmdbjkihaaS
open Go Go.RowKit Go.Proofs Go.Proofs.YtchdcdmdbjkihaaX
set_option maxRecDepth 100000
set_option linter.unusedVariables false
set_option linter.unusedSectionVars false
set_option linter.unusedSimpArgs false

/-- What a call answered. -/
structure Tk where
  p : Pk
  s : Int
  e : Int
def tv (a0 a1 : Int) (a2 a3 : Bool) (a4 a5 a6 a7 a8 : Int) (A : Option Addr) (n c : Nat) (B : Option Addr) (m d : Nat) (s e : Int) : List Value := hv a0 a1 a2 a3 a4 a5 a6 a7 a8 A n c ++ [.slice B m d, .int .u16 s, .int .i64 e]
def tkv (T : Tk) (A : Option Addr) (n c : Nat) (B : Option Addr) (m d : Nat) : List Value := tv T.p.tos T.p.id T.p.df T.p.mf T.p.off T.p.ttl T.p.proto T.p.src T.p.dst A n c B m d T.s T.e
def RetT (w : World) (T : Tk) (e : Ending) (w' : World) : Prop := Bel w w' ∧ ∃ (A : Option Addr) (n c : Nat) (B : Option Addr) (m d : Nat), e = .returned (.agg (tkv T A n c B m d).toArray) ∧ PkAt w' T.p A n c B m d ∧ (0 < n → Fre w A) ∧ (0 < m → Fre w B)
section
variable {w a : World} {L : List Blk}
theorem put_tell (k : Nat) {g : Nat} {t : TypeId} {l : List Value} (h : Own w a L) (hk : L[k]? = some (g, t, l)) (hl : l.length = 13) {a0 a1 : Int} {a2 a3 : Bool} {a4 a5 a6 a7 a8 : Int} {A : Option Addr} {n c : Nat} {B : Option Addr} {m d : Nat} {s e : Int} {Q : Ending → World → Prop}
    (hQ : ∀ w1, Own w w1 (L.set k (g, t, tv a0 a1 a2 a3 a4 a5 a6 a7 a8 A n c B m d s e)) → But g a w1 → Q (.returned (.agg (tv a0 a1 a2 a3 a4 a5 a6 a7 a8 A n c B m d s e).toArray)) w1) :
    May a ⟨g, 0, none⟩ 13 ∧ Let (putCells a ⟨g, 0, none⟩ [.int .u8 a0, .int .u16 a1, .bool a2, .bool a3, .int .i64 a4, .int .u8 a5, .int .u8 a6, .int .u32 a7, .int .u32 a8, .slice A n c, .slice B m d, .int .u16 s, .int .i64 e] 0) fun w1 =>
      ∃ x0 : Int, ∃ x1 : Int, ∃ x2 : Bool, ∃ x3 : Bool, ∃ x4 : Int, ∃ x5 : Int, ∃ x6 : Int, ∃ x7 : Int, ∃ x8 : Int, ∃ (C : Option Addr) (i j : Nat), ∃ (D : Option Addr) (i' j' : Nat), ∃ y0 : Int, ∃ y1 : Int,
      (13 = 13 ∧ At w1 ⟨g, 0, none⟩ [.int .u8 x0, .int .u16 x1, .bool x2, .bool x3, .int .i64 x4, .int .u8 x5, .int .u8 x6, .int .u32 x7, .int .u32 x8, .slice C i j, .slice D i' j', .int .u16 y0, .int .i64 y1]) ∧
      (Q (.returned (.agg #[.int .u8 x0, .int .u16 x1, .bool x2, .bool x3, .int .i64 x4, .int .u8 x5, .int .u8 x6, .int .u32 x7, .int .u32 x8, .slice C i j, .slice D i' j', .int .u16 y0, .int .i64 y1])) w1) := by
  refine own_putB k h hk rfl (by omega) fun w1 H hb => ?_
  rw [splice_all _ _ (by rw [hl]; rfl)] at H
  have hkl := (List.getElem?_eq_some_iff.1 hk).1
  refine ⟨_, _, _, _, _, _, _, _, _, _, _, _, _, _, _, _, _, ⟨rfl, (H.bk k (List.getElem?_set_self hkl)).at⟩, ?_⟩
  exact hQ w1 H hb
/-- A list and an error become an answer. -/
theorem told_le (k : Nat) {w0 : World} {g : Nat} {t : TypeId} {l : List Value} (h : Own w a L) (hk : L[k]? = some (g, t, l)) (hl : l.length = 13) {b : List Int} {e : Int} {B : Option Addr} {d : Nat} (y : By a B b.length b) (hd : b.length ≤ d) (hf : 0 < b.length → Fre w B) (ho : 0 < b.length → ∀ z, B = some z → z.block ≠ g) :
    May a ⟨g, 0, none⟩ 13 ∧ Let (putCells a ⟨g, 0, none⟩ [.int .u8 0, .int .u16 0, .bool false, .bool false, .int .i64 0, .int .u8 0, .int .u8 0, .int .u32 0, .int .u32 0, .slice none 0 0, .slice B b.length d, .int .u16 0, .int .i64 e] 0) fun w1 =>
      ∃ x0 : Int, ∃ x1 : Int, ∃ x2 : Bool, ∃ x3 : Bool, ∃ x4 : Int, ∃ x5 : Int, ∃ x6 : Int, ∃ x7 : Int, ∃ x8 : Int, ∃ (C : Option Addr) (i j : Nat), ∃ (D : Option Addr) (i' j' : Nat), ∃ y0 : Int, ∃ y1 : Int,
      (13 = 13 ∧ At w1 ⟨g, 0, none⟩ [.int .u8 x0, .int .u16 x1, .bool x2, .bool x3, .int .i64 x4, .int .u8 x5, .int .u8 x6, .int .u32 x7, .int .u32 x8, .slice C i j, .slice D i' j', .int .u16 y0, .int .i64 y1]) ∧
      (RetT w ⟨{ pz with body := b }, 0, e⟩ (.returned (.agg #[.int .u8 x0, .int .u16 x1, .bool x2, .bool x3, .int .i64 x4, .int .u8 x5, .int .u8 x6, .int .u32 x7, .int .u32 x8, .slice C i j, .slice D i' j', .int .u16 y0, .int .i64 y1])) w1) := by
  refine put_tell k h hk hl fun w1 H hb => ?_
  exact ⟨H.bel, none, 0, 0, B, b.length, d, rfl, ⟨By.nil _ _, y.but1 hb ho, Nat.le_refl _, hd⟩, fun h => absurd h (Nat.lt_irrefl 0), hf⟩
/-- A number becomes an answer. -/
theorem told_s (k : Nat) {g : Nat} {t : TypeId} {l : List Value} (h : Own w a L) (hk : L[k]? = some (g, t, l)) (hl : l.length = 13) {s : Int} :
    May a ⟨g, 0, none⟩ 13 ∧ Let (putCells a ⟨g, 0, none⟩ [.int .u8 0, .int .u16 0, .bool false, .bool false, .int .i64 0, .int .u8 0, .int .u8 0, .int .u32 0, .int .u32 0, .slice none 0 0, .slice none 0 0, .int .u16 s, .int .i64 0] 0) fun w1 =>
      ∃ x0 : Int, ∃ x1 : Int, ∃ x2 : Bool, ∃ x3 : Bool, ∃ x4 : Int, ∃ x5 : Int, ∃ x6 : Int, ∃ x7 : Int, ∃ x8 : Int, ∃ (C : Option Addr) (i j : Nat), ∃ (D : Option Addr) (i' j' : Nat), ∃ y0 : Int, ∃ y1 : Int,
      (13 = 13 ∧ At w1 ⟨g, 0, none⟩ [.int .u8 x0, .int .u16 x1, .bool x2, .bool x3, .int .i64 x4, .int .u8 x5, .int .u8 x6, .int .u32 x7, .int .u32 x8, .slice C i j, .slice D i' j', .int .u16 y0, .int .i64 y1]) ∧
      (RetT w ⟨pz, s, 0⟩ (.returned (.agg #[.int .u8 x0, .int .u16 x1, .bool x2, .bool x3, .int .i64 x4, .int .u8 x5, .int .u8 x6, .int .u32 x7, .int .u32 x8, .slice C i j, .slice D i' j', .int .u16 y0, .int .i64 y1])) w1) := by
  refine put_tell k h hk hl fun w1 H hb => ?_
  exact ⟨H.bel, none, 0, 0, none, 0, 0, rfl, pz_at _, fun h => absurd h (Nat.lt_irrefl 0), fun h => absurd h (Nat.lt_irrefl 0)⟩
end
def tz : List Value := tv 0 0 false false 0 0 0 0 0 none 0 0 none 0 0 0 0
/-- The answer to a step. -/
def tldOf (o : Op3) : Tk :=
  if o.k = 1 then ⟨pz, 65535 - S (tot true o.ps.flatten), 0⟩ else if o.k = 2 then ⟨pz, adjS o.x o.y o.z, 0⟩ else if o.k = 3 then ⟨pkOut o.b, 0, bad true o.b⟩ else if o.k = 4 then ⟨pePk o.b, 0, bad false o.b⟩
  else if o.k = 5 then ⟨{ pz with body := bldL o.p }, 0, o.p.err⟩ else if o.k = 6 then ⟨{ pz with body := ageL o.b }, 0, ageE o.b⟩ else if o.k = 7 then ⟨{ pz with body := copL o.b }, 0, copE o.b⟩ else ⟨pz, 0, 0⟩
theorem cond_old {w a : World} {L : List Blk} (h : Own w a L) (k : Nat) {p : Blk} (hk : L[k]? = some p) {A : Option Addr} {c : Prop} (hf : c → Fre a A) : c → ∀ b, A = some b → b.block ≠ p.1 := fun hc => h.old k hk (hf hc)
section
variable {w : World} {o : Op3} {Z : Option Addr} {zn zc : Nat} {Y : Option Addr} {yn yc : Nat} {A : Option Addr} {n c : Nat} {B : Option Addr} {m d : Nat}
theorem ran_t (ho : o.Fine) (h : OpAt w o Z zn zc Y yn yc A n c B m d) : Calls Try.prog 17 #[.agg (opv o Z zn zc Y yn yc A n c B m d).toArray] w (RetT w (tldOf o)) := by
  refine weftlaw3_ran.run ?_
  unfold weftlaw3_ran.s
  have lz := h.b.len
  have l1 := ho.lb
  have l2 := ho.ln
  have l3 := ho.lp
  have l4 := h.ps.1
  refine own_new (l := opv o Z zn zc Y yn yc A n c B m d) (Own.refl w) fun g1 w1 H => ?_
  refine own_new (l := tz) H fun g3 w2 H => ?_
  refine ⟨_, H.cell 1 0 rfl rfl, ?_⟩
  unfold tldOf
  refine ifE (fun hk => ?_) (fun hk => ?_)
  · rw [if_pos hk]
    refine ⟨_, _, _, H.cell 1 2 rfl rfl, ?_⟩
    refine call_of (sum_c (h.ps.bel H.bel) ho.ps (by omega) (by omega)) ?_
    rintro e w3 ⟨rfl, k3⟩
    replace H := H.call k3
    refine ⟨_, rfl, ?_⟩
    exact told_s 0 H rfl rfl
  rw [if_neg hk]
  refine ifE (fun hk => ?_) (fun hk => ?_)
  · rw [if_pos hk]
    refine ⟨_, H.cell 1 3 rfl rfl, _, H.cell 1 4 rfl rfl, _, H.cell 1 5 rfl rfl, ?_⟩
    refine call_of (Adjust_c _ ho.x ho.y ho.z) ?_
    rintro e w3 ⟨rfl, k3⟩
    replace H := H.call k3
    refine ⟨_, rfl, ?_⟩
    exact told_s 0 H rfl rfl
  rw [if_neg hk]
  refine ifE (fun hk => ?_) (fun hk => ?_)
  · rw [if_pos hk]
    refine ⟨_, _, _, H.cell 1 1 rfl rfl, ?_⟩
    refine call_of (Parse4_c (h.b.bel H.bel) ho.b h.cb (by omega)) ?_
    intro e w3 he
    obtain ⟨k3, A1, n1, c1, B1, m1, d1, rfl, y1, f1, f2⟩ := rd_out he
    have o1 := H.old 0 rfl f1
    have o2 := H.old 0 rfl f2
    replace f1 := f1.le H.bel
    replace f2 := f2.le H.bel
    replace H := H.call k3
    refine ⟨_, _, _, _, _, _, _, _, _, _, _, _, _, _, _, _, rfl, ?_⟩
    refine own_mk (pb pz none 0 0 none 0 0) H rfl rfl fun g4 w4 H k4 _ => ?_
    replace y1 := y1.bel k4
    replace H : Own w w4 [(g4, 37, pb (pkOut o.b) A1 n1 c1 B1 m1 d1), (g3, 52, tz), (g1, 39, opv o Z zn zc Y yn yc A n c B m d)] := H
    refine ld_head10 (H.bk 0 rfl) ?_
    refine ⟨_, _, _, H.cell 0 10 rfl rfl, ?_⟩
    refine put_tell 1 H rfl rfl fun w5 H u => ?_
    exact ⟨H.bel, A1, n1, c1, B1, m1, d1, rfl, y1.but u o1 o2, fun _ => f1, fun _ => f2⟩
  rw [if_neg hk]
  refine ifE (fun hk => ?_) (fun hk => ?_)
  · rw [if_pos hk]
    refine ⟨_, _, _, H.cell 1 1 rfl rfl, ?_⟩
    refine call_of (Peek_c (h.b.bel H.bel) ho.b h.cb (by omega)) ?_
    intro e w3 he
    obtain ⟨k3, A1, n1, c1, B1, m1, d1, rfl, y1, f1, f2⟩ := pe_out he
    have o1 := H.old 0 rfl f1
    have o2 := H.old 0 rfl f2
    replace f1 := f1.le H.bel
    replace f2 := f2.le H.bel
    replace H := H.call k3
    refine ⟨_, _, _, _, _, _, _, _, _, _, _, _, _, _, _, _, rfl, ?_⟩
    refine own_mk hz H rfl rfl fun g4 w4 H k4 _ => ?_
    replace y1 := y1.bel k4
    replace H : Own w w4 [(g4, 35, pv (pePk o.b) A1 n1 c1), (g3, 52, tz), (g1, 39, opv o Z zn zc Y yn yc A n c B m d)] := H
    refine ld_head (H.bk 0 rfl) ?_
    refine put_tell 1 H rfl rfl fun w5 H u => ?_
    exact ⟨H.bel, A1, n1, c1, B1, m1, d1, rfl, y1.but u o1 o2, fun _ => f1, fun _ => f2⟩
  rw [if_neg hk]
  refine ifE (fun hk => ?_) (fun hk => ?_)
  · rw [if_pos hk]
    refine ld_pktA (opv_pkt (H.bk 1 rfl)) ?_
    have hp := h.p.bel H.bel
    refine call_of (BuildB_c ho.p hp.opts hp.body hp.co) ?_
    intro e w3 he
    obtain ⟨k3, A1, c1, rfl, y1, g5, f1⟩ := he.le
    have o1 := cond_old H 0 rfl f1
    have f2 := fun h => (f1 h).le H.bel
    replace H := H.call k3
    refine ⟨_, _, _, _, rfl, ?_⟩
    exact told_le (w0 := w) 0 H rfl rfl y1 g5 f2 o1
  rw [if_neg hk]
  refine ifE (fun hk => ?_) (fun hk => ?_)
  · rw [if_pos hk]
    refine ⟨_, _, _, H.cell 1 1 rfl rfl, ?_⟩
    refine call_of (Age4_c (h.b.bel H.bel) ho.b h.cb (by omega)) ?_
    intro e w3 he
    obtain ⟨k3, A1, c1, rfl, y1, g5, f1⟩ := he.le
    have o1 := cond_old H 0 rfl f1
    have f2 := fun h => (f1 h).le H.bel
    replace H := H.call k3
    refine ⟨_, _, _, _, rfl, ?_⟩
    exact told_le (w0 := w) 0 H rfl rfl y1 g5 f2 o1
  rw [if_neg hk]
  refine ifE (fun hk => ?_) (fun hk => ?_)
  · rw [if_pos hk]
    refine ⟨_, _, _, H.cell 1 1 rfl rfl, ?_⟩
    refine call_of (Copied4_c (h.b.bel H.bel) ho.b h.cb (by omega)) ?_
    intro e w3 he
    obtain ⟨k3, A1, c1, rfl, y1, g5, f1⟩ := he.le
    have o1 := cond_old H 0 rfl f1
    have f2 := fun h => (f1 h).le H.bel
    replace H := H.call k3
    refine ⟨_, _, _, _, rfl, ?_⟩
    exact told_le (w0 := w) 0 H rfl rfl y1 g5 f2 o1
  rw [if_neg hk]
  exact told_s 0 H rfl rfl
theorem meant_t (ho : o.Fine) (h0 : OpAt w o Z zn zc Y yn yc A n c B m d) (hn : n ≤ 1000000000) (hm : m ≤ 1000000000) : Calls Try.prog 18 #[.agg (opv o Z zn zc Y yn yc A n c B m d).toArray] w (RetT w (tldOf o)) := by
  refine weftlaw3_meant.run ?_
  unfold weftlaw3_meant.s
  have l1 := ho.lb
  have l2 := ho.ln
  have l3 := ho.lp
  have hfb : Bytes o.ps.flatten := fun x hx => by
    obtain ⟨p, hp, hx⟩ := List.mem_flatten.1 hx
    exact ho.ps p hp x hx
  refine own_new (l := opv o Z zn zc Y yn yc A n c B m d) (Own.refl w) fun g1 w1 H => ?_
  refine own_new (l := tz) H fun g3 w2 H => ?_
  refine ⟨_, _, _, _, _, _, _, _, _, _, _, _, _, _, _, _, _, _, _, _, _, _, _, _, _, ⟨rfl, (H.bk 1 rfl).at⟩, ?_⟩
  refine call_of (alone_t ho (h0.bel H.bel) hn hm) ?_
  rintro e w3 ⟨Z', zn', zc', Y', yn', yc', A', n', c', B', m', d', oP, os, ls, rfl, HX, xo⟩
  have h : OpAt w3 o Z' zn' zc' Y' yn' yc' A' n' c' B' m' d' := XO.at (R := []) (by rw [List.append_nil]; exact HX) xo
  replace H := H.call HX.bel
  refine ⟨_, _, _, _, _, _, _, _, _, _, _, _, _, _, _, _, _, _, _, _, _, _, _, _, _, rfl, ?_⟩
  refine own_mk (opv zop none 0 0 none 0 0 none 0 0 none 0 0) H rfl rfl fun g4 w4 H k4 _ => ?_
  replace h := h.bel k4
  replace H : Own w w4 [(g4, 39, opv o Z' zn' zc' Y' yn' yc' A' n' c' B' m' d'), (g3, 52, tz), (g1, 39, opv o Z zn zc Y yn yc A n c B m d)] := H
  have lz := h.b.len
  have l4 := h.ps.1
  refine ⟨_, H.cell 0 0 rfl rfl, ?_⟩
  unfold tldOf
  refine ifE (fun hk => ?_) (fun hk => ?_)
  · rw [if_pos hk]
    refine ⟨_, _, _, H.cell 0 2 rfl rfl, ?_⟩
    refine call_of (join_c h.ps (by omega) (by omega)) ?_
    rintro e w5 ⟨A3, c3, rfl, b3⟩
    replace H := H.call b3.own.bel
    refine ⟨_, _, _, rfl, ?_⟩
    have y3 := b3.by
    refine own_newB H fun g5 w6 H k6 => ?_
    refine call_of (sum31_c (H.bk 0 rfl) (y3.bel k6) hfb (by omega) 1) ?_
    rintro e w7 ⟨rfl, k7⟩
    replace H := H.call k7
    refine ⟨_, rfl, ?_⟩
    exact told_s 2 H rfl rfl
  rw [if_neg hk]
  refine ifE (fun hk => ?_) (fun hk => ?_)
  · rw [if_pos hk]
    refine ⟨_, H.cell 0 3 rfl rfl, _, H.cell 0 4 rfl rfl, _, H.cell 0 5 rfl rfl, ?_⟩
    refine call_of (Adjust3_c _ ho.x ho.y ho.z) ?_
    rintro e w5 ⟨rfl, k5⟩
    replace H := H.call k5
    refine ⟨_, rfl, ?_⟩
    exact told_s 1 H rfl rfl
  rw [if_neg hk]
  refine ifE (fun hk => ?_) (fun hk => ?_)
  · rw [if_pos hk]
    refine ⟨_, _, _, H.cell 0 1 rfl rfl, ?_⟩
    refine call_of (Parse3_c h.b ho.b h.cb (by omega)) ?_
    intro e w5 he
    obtain ⟨k5, A1, n1, c1, B1, m1, d1, rfl, y1, f1, f2⟩ := rd_out he
    have o1 := H.old 1 rfl f1
    have o2 := H.old 1 rfl f2
    replace f1 := f1.le H.bel
    replace f2 := f2.le H.bel
    replace H := H.call k5
    refine ⟨_, _, _, _, _, _, _, _, _, _, _, _, _, _, _, _, rfl, ?_⟩
    refine own_mk (pb pz none 0 0 none 0 0) H rfl rfl fun g5 w6 H k6 _ => ?_
    replace y1 := y1.bel k6
    replace H : Own w w6 [(g5, 37, pb (pkOut o.b) A1 n1 c1 B1 m1 d1), (g4, 39, opv o Z' zn' zc' Y' yn' yc' A' n' c' B' m' d'), (g3, 52, tz), (g1, 39, opv o Z zn zc Y yn yc A n c B m d)] := H
    refine ld_head10 (H.bk 0 rfl) ?_
    refine ⟨_, _, _, H.cell 0 10 rfl rfl, ?_⟩
    refine put_tell 2 H rfl rfl fun w7 H u => ?_
    exact ⟨H.bel, A1, n1, c1, B1, m1, d1, rfl, y1.but u o1 o2, fun _ => f1, fun _ => f2⟩
  rw [if_neg hk]
  refine ifE (fun hk => ?_) (fun hk => ?_)
  · rw [if_pos hk]
    refine ⟨_, _, _, H.cell 0 1 rfl rfl, ?_⟩
    refine call_of (Peek3_c h.b ho.b h.cb (by omega)) ?_
    intro e w5 he
    obtain ⟨k5, A1, n1, c1, B1, m1, d1, rfl, y1, f1, f2⟩ := pe_out he
    have o1 := H.old 1 rfl f1
    have o2 := H.old 1 rfl f2
    replace f1 := f1.le H.bel
    replace f2 := f2.le H.bel
    replace H := H.call k5
    refine ⟨_, _, _, _, _, _, _, _, _, _, _, _, _, _, _, _, rfl, ?_⟩
    refine own_mk hz H rfl rfl fun g5 w6 H k6 _ => ?_
    replace y1 := y1.bel k6
    replace H : Own w w6 [(g5, 35, pv (pePk o.b) A1 n1 c1), (g4, 39, opv o Z' zn' zc' Y' yn' yc' A' n' c' B' m' d'), (g3, 52, tz), (g1, 39, opv o Z zn zc Y yn yc A n c B m d)] := H
    refine ld_head (H.bk 0 rfl) ?_
    refine put_tell 2 H rfl rfl fun w7 H u => ?_
    exact ⟨H.bel, A1, n1, c1, B1, m1, d1, rfl, y1.but u o1 o2, fun _ => f1, fun _ => f2⟩
  rw [if_neg hk]
  refine ifE (fun hk => ?_) (fun hk => ?_)
  · rw [if_pos hk]
    refine ld_pktA (opv_pkt (H.bk 0 rfl)) ?_
    refine call_of (Build3B_c ho.p h.p) ?_
    rintro e w5 ⟨k5, A1, c1, rfl, y1, g5, f1⟩
    have o1 := cond_old H 1 rfl f1
    have f2 := fun h => (f1 h).le H.bel
    replace H := H.call k5
    refine ⟨_, _, _, _, rfl, ?_⟩
    exact told_le (w0 := w) 1 H rfl rfl y1 g5 f2 o1
  rw [if_neg hk]
  refine ifE (fun hk => ?_) (fun hk => ?_)
  · rw [if_pos hk]
    refine ⟨_, _, _, H.cell 0 1 rfl rfl, ?_⟩
    refine call_of (Age3_c h.b ho.b h.cb (by omega)) ?_
    rintro e w5 ⟨k5, A1, c1, rfl, y1, g5, f1⟩
    have o1 := cond_old H 1 rfl f1
    have f2 := fun h => (f1 h).le H.bel
    replace H := H.call k5
    refine ⟨_, _, _, _, rfl, ?_⟩
    exact told_le (w0 := w) 1 H rfl rfl y1 g5 f2 o1
  rw [if_neg hk]
  refine ifE (fun hk => ?_) (fun hk => ?_)
  · rw [if_pos hk]
    refine ⟨_, _, _, H.cell 0 1 rfl rfl, ?_⟩
    refine call_of (Copied3_c h.b ho.b h.cb) ?_
    intro e w5 he
    obtain ⟨k5, A1, c1, rfl, y1, g5, f1⟩ := he.le
    have o1 := cond_old H 1 rfl f1
    have f2 := fun h => (f1 h).le H.bel
    replace H := H.call k5
    refine ⟨_, _, _, _, rfl, ?_⟩
    exact told_le (w0 := w) 1 H rfl rfl y1 g5 f2 o1
  rw [if_neg hk]
  exact told_s 1 H rfl rfl
end
theorem agree_t {w : World} {T : Tk} {A : Option Addr} {n c : Nat} {B : Option Addr} {m d : Nat} {A' : Option Addr} {n' c' : Nat} {B' : Option Addr} {m' d' : Nat} (h : PkAt w T.p A n c B m d) (h' : PkAt w T.p A' n' c' B' m' d')
    (hn : n ≤ 100000000000000) (hm : m ≤ 100000000000000) : Calls Try.prog 19 #[.agg (tkv T A n c B m d).toArray, .agg (tkv T A' n' c' B' m' d').toArray] w (Yes w) := by
  refine weftlaw3_agree.run ?_
  unfold weftlaw3_agree.s
  refine own_new (l := tkv T A n c B m d) (Own.refl w) fun g1 w1 H => ?_
  refine own_new (l := tkv T A' n' c' B' m' d') H fun g2 w2 H => ?_
  refine ⟨_, H.cell 1 11 rfl rfl, _, H.cell 0 11 rfl rfl, ifE (fun _ => ?_) (fun h => absurd rfl h)⟩
  refine ⟨_, H.cell 1 12 rfl rfl, _, H.cell 0 12 rfl rfl, ifE (fun _ => ?_) (fun h => absurd rfl h)⟩
  refine ld_head10 (H.bk 1 rfl) ?_
  refine ld_head10 (H.bk 0 rfl) ?_
  refine call_of (heads_t (h.opts.bel H.bel) (h'.opts.bel H.bel) hn) ?_
  rintro e w3 ⟨rfl, k3⟩
  replace H := H.call k3
  refine ⟨_, rfl, ifB (fun _ => ?_) (fun h => by cases h)⟩
  refine ⟨B, m, d, H.cell 1 10 rfl rfl, B', m', d', H.cell 0 10 rfl rfl, ?_⟩
  refine call_of (same_t (h.body.bel H.bel) (h'.body.bel H.bel) hm) ?_
  rintro e w4 ⟨rfl, k4⟩
  exact ⟨_, rfl, rfl, H.bel.trans k4⟩
end Go.Proofs.YtchdcdmdbjkihaaS
