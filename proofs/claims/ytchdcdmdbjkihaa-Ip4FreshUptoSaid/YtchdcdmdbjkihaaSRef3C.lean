/- What header and Build of package weftref3 answer.
   Conditions: bytes are 0 to 255; lists are no longer than memory lets. -/
import Derived.Test.YtchdcdmdbjkihaaSRef3B
namespace Go.Proofs.YtchdcdmdbjkihaaS
open Go Go.RowKit Go.Proofs Go.Proofs.YtchdcdmdbjkihaaX
set_option maxRecDepth 100000
set_option linter.unusedVariables false
set_option linter.unusedSimpArgs false

theorem header_l {w : World} {p : Pk} {g : Nat} {A : Option Addr} {n c : Nat} (hA : By w A n p.opts) (hn : n ≤ 40) {F : List Int} (hF : F.length = 20) : ∀ (q i : Nat) (wa : World) (B : Option Addr) (m d : Nat), n - i < q → i ≤ n →
    Buf w wa [(g, 35, pv p A n c)] B m d (F ++ p.opts.take i) → weftref3_header.L1 q g B m d (i : Int) wa (RetBuf w (F ++ p.opts)) := by
  intro q
  induction q with
  | zero => intro i wa B m d h; omega
  | succ q ih =>
    intro i wa B m d hq hi hb
    have hl := hA.len
    have hm := hb.len
    rw [List.length_append, List.length_take] at hm
    unfold weftref3_header.L1; intros
    rw [weftref3_header.l1_eq]
    refine ⟨A, n, c, hb.own.cell 0 9 rfl rfl, ?_⟩
    refine ifD (fun h1 => ?_) (fun h1 => ?_)
    · refine ⟨A, n, c, hb.own.cell 0 9 rfl rfl, ?_⟩
      refine (hA.bel hb.own.bel).rd (by omega) (by omega) fun _ => ?_
      rw [Int.toNat_natCast]
      refine buf_lit (m := 1) hb [p.opts.getD i 0] rfl (by omega) fun B' d' wb hb' => ?_
      refine let_as ((i + 1 : Nat) : Int) (by rw [w64 (by omega) (by omega)]; omega) ?_
      have e : p.opts.take i ++ [p.opts.getD i 0] = p.opts.take (i + 1) := by
        rw [List.take_succ_eq_append_getElem (by omega)]
        simp [List.getD_eq_getElem?_getD, show i < p.opts.length by omega]
      rw [List.append_assoc, e] at hb'
      apply ih (i + 1) wb B' (m + 1) d' (by omega) (by omega) hb'
    · have : i = p.opts.length := by omega
      subst this
      rw [List.take_length] at hb
      refine ⟨B, d, by rw [hb.len], ?_⟩
      rw [hb.len]
      exact hb.alone
theorem header_j2 {w wa : World} {p : Pk} (h : p.Fine) (he : p.err = 0) {s : Int} (hs : 0 ≤ s ∧ s ≤ 65535) {g : Nat} {A : Option Addr} {n c : Nat} (hA : By w A n p.opts) {B : Option Addr} {d : Nat}
    (hb : Buf w wa [(g, 35, pv p A n c)] B 6 d [p.h0, p.tos, (p.tl : Int) / 256 % 256, (p.tl : Int) % 256, p.id / 256 % 256, p.id % 256]) : weftref3_header.J2 s g B 6 d p.fl wa (RetBuf w (p.head s)) := by
  unfold weftref3_header.J2; intros
  rw [weftref3_header.j2_eq]
  have hfl := Pk.fl_range (Pk.err_zero he).2.1
  have ho := oOK_len (Pk.err_zero he).1
  have hl := hA.len
  have h1 := h.src
  have h2 := h.dst
  refine put2_c hb (by omega) (by omega) fun B1 d1 w1 hb => ?_
  refine ⟨_, _, _, rfl, _, hb.own.cell 0 5 rfl rfl, _, hb.own.cell 0 6 rfl rfl, ?_⟩
  refine buf_lit (m := 2) hb [p.ttl, p.proto] rfl (by omega) fun B2 d2 w2 hb => ?_
  refine let_as s (w64 (by omega) (by omega)) ?_
  refine put2_c hb hs (by omega) fun B3 d3 w3 hb => ?_
  refine ⟨_, _, _, rfl, _, hb.own.cell 0 7 rfl rfl, ?_⟩
  refine let_as p.src (w64 (by omega) (by omega)) ?_
  refine let_as (p.src / 65536) (by rw [td (by omega), w64 (by omega) (by omega)]) ?_
  refine put2_c hb (by omega) (by omega) fun B4 d4 w4 hb => ?_
  refine ⟨_, _, _, rfl, _, hb.own.cell 0 7 rfl rfl, ?_⟩
  refine let_as p.src (w64 (by omega) (by omega)) ?_
  refine let_as (p.src % 65536) (tm (by omega)) ?_
  refine put2_c hb (by omega) (by omega) fun B5 d5 w5 hb => ?_
  refine ⟨_, _, _, rfl, _, hb.own.cell 0 8 rfl rfl, ?_⟩
  refine let_as p.dst (w64 (by omega) (by omega)) ?_
  refine let_as (p.dst / 65536) (by rw [td (by omega), w64 (by omega) (by omega)]) ?_
  refine put2_c hb (by omega) (by omega) fun B6 d6 w6 hb => ?_
  refine ⟨_, _, _, rfl, _, hb.own.cell 0 8 rfl rfl, ?_⟩
  refine let_as p.dst (w64 (by omega) (by omega)) ?_
  refine let_as (p.dst % 65536) (tm (by omega)) ?_
  refine put2_c hb (by omega) (by omega) fun B7 d7 w7 hb => ?_
  refine ⟨_, _, _, rfl, n + 1, ?_⟩
  have e : ∀ F : List Int, F = p.fr ++ (s / 256 % 256 :: s % 256 :: p.bk) → F ++ p.opts = p.head s := fun F hF => by
    rw [hF]
    unfold Pk.head
    simp
  have hF : [p.h0, p.tos, (p.tl : Int) / 256 % 256, (p.tl : Int) % 256, p.id / 256 % 256, p.id % 256] ++ [p.fl / 256 % 256, p.fl % 256] ++ [p.ttl, p.proto] ++ [s / 256 % 256, s % 256] ++ [p.src / 65536 / 256 % 256, p.src / 65536 % 256] ++ [p.src % 65536 / 256 % 256, p.src % 65536 % 256] ++ [p.dst / 65536 / 256 % 256, p.dst / 65536 % 256] ++ [p.dst % 65536 / 256 % 256, p.dst % 65536 % 256] = p.fr ++ (s / 256 % 256 :: s % 256 :: p.bk) := by
    simp only [Pk.fr, Pk.bk, List.cons_append, List.nil_append, List.cons.injEq, and_true, true_and]
    omega
  rw [hF] at hb
  rw [← e _ rfl]
  have := header_l (c := c) (g := g) hA (by omega) (F := p.fr ++ (s / 256 % 256 :: s % 256 :: p.bk)) (by rfl) (n + 1) 0 w7 B7 _ d7 (by omega) (by omega) (by rw [List.take_zero, List.append_nil]; exact hb)
  apply this
theorem header_j1 {w wa : World} {p : Pk} (h : p.Fine) (he : p.err = 0) {s : Int} (hs : 0 ≤ s ∧ s ≤ 65535) {g : Nat} {A : Option Addr} {n c : Nat} (hA : By w A n p.opts) {B : Option Addr} {d : Nat}
    (hb : Buf w wa [(g, 35, pv p A n c)] B 6 d [p.h0, p.tos, (p.tl : Int) / 256 % 256, (p.tl : Int) % 256, p.id / 256 % 256, p.id % 256]) {x : Int} (hx : x = p.off / 8 + (if p.df = true then 16384 else 0)) :
    weftref3_header.J1 s g B 6 d x wa (RetBuf w (p.head s)) := by
  unfold weftref3_header.J1; intros
  rw [weftref3_header.j1_eq]
  have hod := (ordB_true (Pk.err_zero he).2.1).1
  have e2 := header_j2 h he hs hA hb
  refine ⟨_, hb.own.cell 0 3 rfl rfl, ?_⟩
  refine ifB (fun hm => ?_) (fun hm => ?_)
  · have ef : p.fl = x + 8192 := by unfold Pk.fl; rw [if_pos hm, hx]
    refine let_as p.fl (by rw [ef]; exact w64 (by rw [hx]; split <;> omega) (by rw [hx]; split <;> omega)) ?_
    exact ⟨by with_reducible apply e2⟩
  · have ef : x = p.fl := by unfold Pk.fl; rw [if_neg (c := p.mf = true) (by rw [hm]; decide), hx, Int.add_zero]
    rw [ef]
    exact ⟨by with_reducible apply e2⟩
end Go.Proofs.YtchdcdmdbjkihaaS
