/- Control messages as plain bytes; what icmp.Build and icmp.Parse of the printed program answer.
   Conditions: the fields are of their kinds, the lists short enough for 64 bits. -/
import Derived.Test.YtmjhfkjnnpnoaaaQBXFlip
import Derived.Test.YtmjhfkjnnpnoaaaQBXAx1
import Derived.Test.YtmjhfkjnnpnoaaaQBXAx2
import Derived.Test.YtmjhfkjnnpnoaaaQBXAx3
namespace Go.Proofs.YtmjhfkjnnpnoaaaX
open Go.RowKit Go.Proofs.Ytmjhfkjnnpnoaaa.XA Go.Proofs.YtmjhfkjnnpnoaaaW.PrintWords Go.Proofs.YtmjhfkjnnpnoaaaW.PrintLast Go.Proofs.YtmjhfkjnnpnoaaaW.PrintMore
set_option linter.unusedVariables false
set_option linter.unusedSimpArgs false

/-- A message; its bytes with a sum's field. -/
structure Ic where
  typ : Int
  code : Int
  rest : Int
  body : List Int
structure Ic.Fine (c : Ic) : Prop where
  typ : 0 ≤ c.typ ∧ c.typ ≤ 255
  code : 0 ≤ c.code ∧ c.code ≤ 255
  rest : 0 ≤ c.rest ∧ c.rest ≤ 4294967295
  body : Bytes c.body
  lb : c.body.length ≤ 140737488351232
def Ic.behind (c : Ic) : List Int := c.rest / 16777216 % 256 :: c.rest / 65536 % 256 :: c.rest / 256 % 256 :: c.rest % 256 :: c.body
def Ic.bytes (c : Ic) (s : Int) : List Int := c.typ :: c.code :: s / 256 % 256 :: s % 256 :: c.behind
def Ic.T (c : Ic) : Int := tot true (c.typ :: c.code :: c.behind)
def Ic.sum (c : Ic) : Int := 65535 - S c.T
theorem Ic.behind_bytes {c : Ic} (h : c.Fine) : Bytes c.behind := by
  have := h.rest
  exact Bytes.cons (by omega) (Bytes.cons (by omega) (Bytes.cons (by omega) (Bytes.cons (by omega) h.body)))
theorem Ic.bytes_bytes {c : Ic} (h : c.Fine) (s : Int) : Bytes (c.bytes s) := Bytes.cons h.typ (Bytes.cons h.code (Bytes.cons (by omega) (Bytes.cons (by omega) (Ic.behind_bytes h))))
theorem Ic.T_nonneg {c : Ic} (h : c.Fine) : 0 ≤ c.T := tot_nonneg (Bytes.cons h.typ (Bytes.cons h.code (Ic.behind_bytes h)))
theorem Ic.tot_bytes (c : Ic) {s : Int} (h0 : 0 ≤ s) (h1 : s ≤ 65535) : tot true (c.bytes s) = c.T + s := by
  unfold Ic.bytes Ic.T
  simp only [tot]
  omega
theorem Ic.len (c : Ic) (s : Int) : (c.bytes s).length = 8 + c.body.length := by
  simp [Ic.bytes, Ic.behind]
  omega
theorem Ic.sum_range {c : Ic} (h : c.Fine) : 0 ≤ c.sum ∧ c.sum ≤ 65535 := by
  have := S_range (Ic.T_nonneg h)
  unfold Ic.sum
  omega
theorem Ic.sum_full {c : Ic} (h : c.Fine) : S (c.T + c.sum) = 65535 := by
  have h0 := Ic.T_nonneg h
  have h1 := S_mod h0
  have h2 := S_range h0
  have h3 := S_eq_zero h0
  unfold Ic.sum
  refine S_full ?_ ?_ <;> omega
theorem build_ic {c : Ic} (h : c.Fine) : Ev (fun k => icmp_Build.f k c.typ c.code c.rest c.body) (if c.body.length > 65507 then ([], 37) else (c.bytes c.sum, 0)) := by
  by_cases hl : c.body.length > 65507
  · rw [if_pos hl]
    exact Ev.congr (fun k => by rw [icmp_Build.f, if_pos (by omega)]) (Ev.now _)
  rw [if_neg hl]
  have hs := Ic.sum_range h
  have e0 : ([c.typ, c.code, 0, 0, (c.rest / 16777216) % 256, (c.rest / 65536) % 256, (c.rest / 256) % 256, (c.rest) % 256] : List Int) ++ c.body = c.bytes 0 := rfl
  have hlen := Ic.len c 0
  have ht : tot true (c.bytes 0) = c.T := by rw [Ic.tot_bytes c (by omega) (by omega)]; omega
  refine Ev.congr (fun k => by rw [icmp_Build.f, if_neg (by omega), Option.bind_some, if_pos (by simp; omega), e0, Option.bind_some]) ?_
  refine Ev.bind (sum_one (Ic.bytes_bytes h 0) (by omega)) ?_
  rw [ht]
  refine Ev.congr (fun k => by rw [if_pos (by omega), if_pos (by omega)]) ?_
  exact Ev.now _
/-- Why a message's bytes are refused; 0: they are not. -/
def icBad (b : List Int) : Int := if b.length < 8 then 30 else if b.length > 65515 then 37 else if S (tot true b) ≠ 65535 then 33 else 0
theorem or_four {a b c d : Int} (ha : 0 ≤ a ∧ a ≤ 255) (hb : 0 ≤ b ∧ b ≤ 255) (hc : 0 ≤ c ∧ c ≤ 255) (hd : 0 ≤ d ∧ d ≤ 255) :
    Go.bits .or .u32 (Go.bits .or .u32 (Go.bits .or .u32 (((a % 4294967296) * 16777216) % 4294967296) (((b % 4294967296) * 65536) % 4294967296)) (((c % 4294967296) * 256) % 4294967296)) (d % 4294967296) = (a * 256 + b) * 65536 + (c * 256 + d) := by
  rw [show a % 4294967296 * 16777216 % 4294967296 = a * 16777216 by omega, show b % 4294967296 * 65536 % 4294967296 = b * 65536 by omega, show c % 4294967296 * 256 % 4294967296 = c * 256 by omega, show d % 4294967296 = d by omega]
  rw [bits_join .u32 32 (by decide) wraps_u32 24 (a * 16777216) (b * 65536) (by omega) (by omega) (by omega) (by omega) (by omega) (by omega)]
  rw [bits_join .u32 32 (by decide) wraps_u32 16 (a * 16777216 + b * 65536) (c * 256) (by omega) (by omega) (by omega) (by omega) (by omega) (by omega)]
  rw [bits_join .u32 32 (by decide) wraps_u32 8 (a * 16777216 + b * 65536 + c * 256) d (by omega) (by omega) (by omega) (by omega) (by omega) (by omega)]
  omega
theorem parse_ic {b : List Int} (hb : Bytes b) (hl : b.length ≤ 140737488351232) : Ev (fun k => icmp_Parse.f k b) (if icBad b = 0 then (b.getD 0 0, b.getD 1 0, lg b 4, b.drop 8, 0) else (0, 0, 0, [], icBad b)) := by
  by_cases h1 : b.length < 8
  · have e : icBad b = 30 := by unfold icBad; rw [if_pos h1]
    rw [if_neg (by omega), e]
    exact Ev.congr (fun k => by rw [icmp_Parse.f, if_pos (by omega)]) (Ev.now _)
  by_cases h2 : b.length > 65515
  · have e : icBad b = 37 := by unfold icBad; rw [if_neg h1, if_pos h2]
    rw [if_neg (by omega), e]
    exact Ev.congr (fun k => by rw [icmp_Parse.f, if_neg (by omega), if_pos (by omega)]) (Ev.now _)
  refine Ev.congr (fun k => by rw [icmp_Parse.f, if_neg (by omega), if_neg (by omega)]) ?_
  refine Ev.bind (sum_one hb (by omega)) ?_
  have hr := S_range (tot_nonneg (b := true) hb)
  by_cases h3 : S (tot true b) ≠ 65535
  · have e : icBad b = 33 := by unfold icBad; rw [if_neg h1, if_neg h2, if_pos h3]
    rw [if_neg (by omega), e]
    exact Ev.congr (fun k => by rw [if_neg (by omega)]) (Ev.now _)
  have e : icBad b = 0 := by unfold icBad; rw [if_neg h1, if_neg h2, if_neg h3]
  rw [if_pos e]
  have r : ∀ i : Nat, rd b (i : Int) = b.getD i 0 := fun i => rd_nat b i
  have r0 : rd b 0 = b.getD 0 0 := rfl
  have r1 : rd b 1 = b.getD 1 0 := rfl
  have r4 : rd b 4 = b.getD 4 0 := rfl
  have r5 : rd b 5 = b.getD 5 0 := rfl
  have r6 : rd b 6 = b.getD 6 0 := rfl
  have r7 : rd b 7 = b.getD 7 0 := rfl
  have hdl : ([] : List Int).length + (b.drop 8).length < 140737488355328 := by simp; omega
  refine Ev.congr (fun k => by rw [if_pos (by omega), if_pos (by omega), if_pos (by omega), if_pos (by omega), if_pos (by omega), if_pos (by omega), if_pos (by omega), if_pos (by omega), if_pos hdl, r0, r1, r4, r5, r6, r7, or_four (hb.getD 4) (hb.getD 5) (hb.getD 6) (hb.getD 7), List.nil_append]) ?_
  exact Ev.now _
theorem same6_loop (a b : List Int) (hl : a.length ≤ 140737488355328) (e : a.length = b.length) (d : Nat) : ∀ j : Nat, j + d = a.length → Ev (fun k => weftlaw6_same.l0 k a b (j : Int)) (decide (a.drop j = b.drop j)) := by
  induction d with
  | zero =>
    intro j hj
    rw [List.drop_eq_nil_of_le (by omega), List.drop_eq_nil_of_le (by omega), decide_eq_true rfl]
    exact Ev.step (fun k => by rw [weftlaw6_same.l0, if_neg (by omega)]) (Ev.now _)
  | succ d ih =>
    intro j hj
    have hlt : j < a.length := by omega
    have hlt2 : j < b.length := by omega
    have hw : wrap64 ((j : Int) + 1) = ((j + 1 : Nat) : Int) := by rw [w64 (by omega) (by omega)]; omega
    rw [List.drop_eq_getElem_cons hlt, List.drop_eq_getElem_cons hlt2]
    by_cases h : a[j] = b[j]
    · refine Ev.step (fun k => by rw [weftlaw6_same.l0, if_pos (by omega), if_pos (by omega), if_pos (by omega), rd_lt _ _ hlt, rd_lt _ _ hlt2, if_pos h, hw]) ?_
      rw [h, decide_eq_decide.mpr (⟨fun e => (List.cons.inj e).2, fun e => by rw [e]⟩ : (b[j] :: a.drop (j + 1) = b[j] :: b.drop (j + 1)) ↔ (a.drop (j + 1) = b.drop (j + 1)))]
      exact ih (j + 1) (by omega)
    · rw [decide_eq_false (fun e => h (List.cons.inj e).1)]
      exact Ev.step (fun k => by rw [weftlaw6_same.l0, if_pos (by omega), if_pos (by omega), if_pos (by omega), rd_lt _ _ hlt, rd_lt _ _ hlt2, if_neg h]) (Ev.now _)
theorem controls_own (t c r : Int) (l : List Int) (hl : l.length ≤ 140737488355328) : Ev (fun k => weftlaw6_controls.f k t c r l t c r l) true := by
  refine Ev.congr (fun k => by rw [weftlaw6_controls.f, if_pos rfl, if_pos rfl, if_pos rfl]) ?_
  have h := same6_loop l l hl rfl l.length 0 (by omega)
  have : Ev (fun k => weftlaw6_same.f k l l) true := by
    refine Ev.congr (fun k => by rw [weftlaw6_same.f, if_pos rfl]) ?_
    simpa using h
  exact Ev.bind this (Ev.now _)
theorem own_ic {c : Ic} (h : c.Fine) (hl : ¬ c.body.length > 65507) {s : Int} (h0 : 0 ≤ s) (h1 : s ≤ 65535) (hs : S (c.T + s) = 65535) : Ev (fun k => icmp_Parse.f k (c.bytes s)) (c.typ, c.code, c.rest, c.body, 0) := by
  have hp := parse_ic (Ic.bytes_bytes h s) (by rw [Ic.len]; have := h.lb; omega)
  have e : icBad (c.bytes s) = 0 := by
    unfold icBad
    rw [Ic.len, if_neg (by omega), if_neg (by omega), Ic.tot_bytes c h0 h1, if_neg (by omega)]
  rw [if_pos e] at hp
  have hr := h.rest
  have e4 : lg (c.bytes s) 4 = c.rest := by
    show (c.rest / 16777216 % 256 * 256 + c.rest / 65536 % 256) * 65536 + (c.rest / 256 % 256 * 256 + c.rest % 256) = c.rest
    omega
  rw [e4] at hp
  exact hp
theorem there_f {c : Ic} (h : c.Fine) : Ev (fun k => weftlaw6_there.f k c.typ c.code c.rest c.body) true := by
  have hlb := h.lb
  refine Ev.bind (build_ic h) ?_
  by_cases hl : c.body.length > 65507
  · simp only [if_pos hl]
    exact Ev.congr (fun k => by rw [if_pos (by omega)]; rfl) (Ev.now _)
  simp only [if_neg hl]
  have hs := Ic.sum_range h
  have hlen := Ic.len c c.sum
  refine Ev.congr (fun k => by rw [if_neg (by omega)]) ?_
  refine Ev.bind (own_ic h hl hs.1 hs.2 (Ic.sum_full h)) ?_
  have e8 : wrap64 (8 + (c.body.length : Int)) = ((8 + c.body.length : Nat) : Int) := by rw [w64 (by omega) (by omega)]; omega
  refine Ev.congr (fun k => by rw [if_pos True.intro, if_pos rfl, e8, if_pos (by omega)]) ?_
  refine Ev.bind (sum_one (Ic.bytes_bytes h c.sum) (by omega)) ?_
  rw [Ic.tot_bytes c hs.1 hs.2, Ic.sum_full h]
  refine Ev.congr (fun k => by rw [if_pos (by omega)]) ?_
  refine Ev.bind (controls_own c.typ c.code c.rest c.body (by omega)) ?_
  exact Ev.now _
end Go.Proofs.YtmjhfkjnnpnoaaaX
