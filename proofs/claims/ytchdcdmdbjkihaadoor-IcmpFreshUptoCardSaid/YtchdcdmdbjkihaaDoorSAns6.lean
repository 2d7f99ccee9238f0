/- Package icmp: what each call answers, with its lists' rooms.
   Conditions: the package variables are as they were laid. -/
import Derived.Test.YtchdcdmdbjkihaaDoorSKeepD
import Derived.Test.YtchdcdmdbjkihaaDoorSOp6
namespace Go.Proofs.YtchdcdmdbjkihaaDoorS
open Go Go.RowKit Go.Proofs Go.Proofs.YtchdcdmdbjkihaaDoorX
set_option maxRecDepth 100000
set_option linter.unusedVariables false
set_option linter.unusedSectionVars false
set_option linter.unusedSimpArgs false

/-- An answer's two lists. -/
structure Two (w w' : World) (A : Option Addr) (n c : Nat) (B : Option Addr) (m d : Nat) : Prop where
  r : Rm2 w' A c B d
  a : Fre w A
  b : Fre w B
  nc : n ≤ c
  md : m ≤ d
  n9 : n ≤ 1000000000
  m9 : m ≤ 1000000000
theorem rm2_one {w : World} {A : Option Addr} {c : Nat} (h : Rm w A c) : Rm2 w A c none 0 := ⟨h, Rm.nil w, fun x y _ e => by cases e⟩
theorem two_nil (w w' : World) : Two w w' none 0 0 none 0 0 := ⟨Rm2.none (Rm.nil _), Fre.nil w, Fre.nil w, Nat.le_refl _, Nat.le_refl _, Nat.zero_le _, Nat.zero_le _⟩
section
variable {w : World}
theorem parse_a {A : Option Addr} {n c : Nat} {b : List Int} (h : By w A n b) (hb : Bytes b) (hc : n ≤ c) (hn : n ≤ 1000000000) :
    Calls Tryd.prog 36 #[.slice A n c] w (fun e w' => Bel w w' ∧ ∃ (x0 x1 x2 : Int) (A' : Option Addr) (n' c' : Nat) (k : Int), e = .returned (.tuple #[.agg (mv x0 x1 x2 A' n' c').toArray, .int .i64 k]) ∧ Two w w' A' n' c' none 0 0) := by
  refine (IParse_r h hb hc).mono fun e w' hk => ⟨hk.1, ?_⟩
  have k := hk.2
  by_cases h0 : icBad b = 0
  · rw [if_pos h0] at k
    obtain ⟨A1, c1, h1, h2, h3, h4, h5⟩ := k
    exact ⟨_, _, _, A1, _, c1, _, h1, rm2_one h5, h4, Fre.nil w, h3, Nat.le_refl _, by omega, Nat.zero_le _⟩
  · rw [if_neg h0] at k
    exact ⟨_, _, _, none, 0, 0, _, k, two_nil w w'⟩
theorem build_a {q : Ic} (h : q.Fine) {A : Option Addr} {n c : Nat} (ha : By w A n q.body) :
    Calls Tryd.prog 38 #[.agg (mv q.typ q.code q.rest A n c).toArray] w (fun e w' => Bel w w' ∧ ∃ (A' : Option Addr) (n' c' : Nat) (k : Int), e = .returned (.tuple #[.slice A' n' c', .int .i64 k]) ∧ Two w w' A' n' c' none 0 0) := by
  refine (BuildI_c h ha).mono fun e w' hk => ⟨hk.1, ?_⟩
  have k := hk.2
  by_cases h0 : q.body.length ≤ 65507
  · rw [if_pos h0] at k
    obtain ⟨gB, cap, rfl, hbk, hge, hcap, hcap2⟩ := k
    have ll := Ic.len q q.sum
    have hr : Rm w' (some ⟨gB, 0, none⟩) cap := Or.inr ⟨_, _, _, rfl, hbk, by rw [List.length_append, List.length_replicate]; omega, hcap2⟩
    exact ⟨_, _, cap, _, rfl, rm2_one hr, Fre.mk hge, Fre.nil w, hcap, Nat.le_refl _, by omega, Nat.zero_le _⟩
  · rw [if_neg h0] at k
    exact ⟨none, 0, 0, _, k, two_nil w w'⟩
theorem pk_a {e : Ending} {w' : World} {k : Int} {q : Pk} (hl : (if k = 0 then q else pz).opts.length ≤ 100000 ∧ (if k = 0 then q else pz).body.length ≤ 100000) (h : RetER w k q e w') :
    ∃ (q : Pk) (A : Option Addr) (n c : Nat) (B : Option Addr) (m d : Nat) (k : Int), e = .returned (.tuple #[.agg (pb q A n c B m d).toArray, .int .i64 k]) ∧ Two w w' A n c B m d := by
  obtain ⟨A, n, c, B, m, d, h1, h2, h3, h4, h5⟩ := h
  have l1 := h2.opts.len
  have l2 := h2.body.len
  exact ⟨_, A, n, c, B, m, d, k, h1, h5, h3, h4, h2.co, h2.cb, by omega, by omega⟩
theorem fault_a6 (hg : Gl w) {p : Pk} (h : p.Fine) {A : Option Addr} {n c : Nat} {B : Option Addr} {m d : Nat} (hp : PkAt w p A n c B m d) {t k x src : Int} (ht : 0 ≤ t ∧ t ≤ 255) (hk : 0 ≤ k ∧ k ≤ 255) (hs : 0 ≤ src ∧ src ≤ 4294967295) :
    Calls Tryd.prog 39 #[.agg (pb p A n c B m d).toArray, .int .u8 t, .int .u8 k, .int .i64 x, .int .u32 src] w (fun e w' => Bel w w' ∧ ∃ (q : Pk) (A : Option Addr) (n c : Nat) (B : Option Addr) (m d : Nat) (k : Int), e = .returned (.tuple #[.agg (pb q A n c B m d).toArray, .int .i64 k]) ∧ Two w w' A n c B m d) :=
  (Fault_r hg h hp ht hk hs).mono fun e w' hk => ⟨hk.1, pk_a (pkE_len fun h => fault_len h) hk.2⟩
theorem echo_a6 (hg : Gl w) {p : Pk} (h : p.Fine) {A : Option Addr} {n c : Nat} {B : Option Addr} {m d : Nat} (hp : PkAt w p A n c B m d) :
    Calls Tryd.prog 40 #[.agg (pb p A n c B m d).toArray] w (fun e w' => Bel w w' ∧ ∃ (q : Pk) (A : Option Addr) (n c : Nat) (B : Option Addr) (m d : Nat) (k : Int), e = .returned (.tuple #[.agg (pb q A n c B m d).toArray, .int .i64 k]) ∧ Two w w' A n c B m d) :=
  (Echo_r hg h hp).mono fun e w' hk => ⟨hk.1, pk_a (pkE_len fun h => echo_len h) hk.2⟩
theorem about_a6 (hg : Gl w) {p : Pk} (h : p.Fine) {A : Option Addr} {n c : Nat} {B : Option Addr} {m d : Nat} (hp : PkAt w p A n c B m d) :
    Calls Tryd.prog 41 #[.agg (pb p A n c B m d).toArray] w (fun e w' => Bel w w' ∧ ∃ (q : Pk) (A : Option Addr) (n c : Nat) (B : Option Addr) (m d : Nat) (k : Int), e = .returned (.tuple #[.agg (pv q A n c).toArray, .slice B m d, .int .i64 k]) ∧ Two w w' A n c B m d) := by
  refine (About_r hg h hp).mono fun e w' hk => ⟨hk.1, ?_⟩
  have h0 := hk.2
  unfold RetAbR at h0
  by_cases h1 : aboutE p = 0
  · rw [if_pos h1] at h0
    obtain ⟨A1, c1, A2, c2, rfl, y1, y2, l1, l2, r1, r2, r3⟩ := h0
    have hl := abP_len (p := p)
    have e : abP p = ⟨(p.body.drop 8).getD 1 0, wd (p.body.drop 8) 4, decide (wd (p.body.drop 8) 6 / 16384 % 2 = 1), decide (wd (p.body.drop 8) 6 / 8192 % 2 = 1), wd (p.body.drop 8) 6 % 8192 * 8, (p.body.drop 8).getD 8 0, (p.body.drop 8).getD 9 0, lg (p.body.drop 8) 12, lg (p.body.drop 8) 16,
      ((p.body.drop 8).take (hlen (p.body.drop 8))).drop 20, ((p.body.drop 8).take (there (p.body.drop 8))).drop (hlen (p.body.drop 8))⟩ := by unfold abP; rw [if_pos h1]
    have z1 := y1.len
    have z2 := y2.len
    have e1 : (abP p).opts = ((p.body.drop 8).take (hlen (p.body.drop 8))).drop 20 := by rw [e]
    have e2 : (abP p).body = ((p.body.drop 8).take (there (p.body.drop 8))).drop (hlen (p.body.drop 8)) := by rw [e]
    rw [e1, e2] at hl
    exact ⟨abP p, A1, _, c1, A2, _, c2, 0, by rw [e]; rfl, r3, r1, r2, l1, l2, by omega, by omega⟩
  · rw [if_neg h1] at h0
    exact ⟨pz, none, 0, 0, none, 0, 0, _, h0, two_nil w w'⟩
end
end Go.Proofs.YtchdcdmdbjkihaaDoorS
