/- What made, message, Echo, Fault and About of package icmp answer.
   Conditions: the three package variables hold their tables; bytes are 0 to 255; lists are no longer than memory lets. -/
import Derived.Test.YtphbdmafchjjeaaDoorHSIcmpB
namespace Go.Proofs.YtphbdmafchjjeaaDoorS
open Go Go.RowKit Go.Proofs Go.Proofs.YtphbdmafchjjeaaDoorX
set_option maxRecDepth 100000
set_option linter.unusedVariables false
set_option linter.unusedSimpArgs false

def madeP (tos src dst : Int) (q : Ic) : Pk := ⟨tos, 0, false, false, 0, 64, 1, src, dst, [], q.bytes q.sum⟩
def RetER (w : World) (k : Int) (q : Pk) (e : Ending) (w' : World) : Prop := RetPkR w (if k = 0 then q else pz) k e w'
theorem RetER.no {w w' : World} {k : Int} (q : Pk) (h : k ≠ 0) : RetER w k q (.returned (.tuple #[.agg (pb pz none 0 0 none 0 0).toArray, .int .i64 k])) w' := by
  unfold RetER
  rw [if_neg h]
  exact ret_pzR w w' k
theorem made_r {w : World} {q : Ic} (h : q.Fine) (h5 : q.body.length ≤ 65507) {A : Option Addr} {n c : Nat} (ha : By w A n q.body) (tos src dst : Int) :
    Calls Tryd.prog 57 #[.int .u8 tos, .int .u32 src, .int .u32 dst, .agg (mv q.typ q.code q.rest A n c).toArray] w (fun e w' => Bel w w' ∧ RetPkR w (madeP tos src dst q) 0 e w') := by
  refine icmp_made.run ?_
  unfold icmp_made.s
  refine own_new (l := mv q.typ q.code q.rest A n c) (Own.refl w) fun g1 w1 H => ?_
  refine own_newB (l := pb pz none 0 0 none 0 0) H fun g2 w2 H k2 => ?_
  refine ld_msg (H.bk 1 rfl) ?_
  refine call_of (BuildI_c h (ha.bel H.bel)) ?_
  rintro e w3 ⟨k3, he⟩
  rw [if_pos h5] at he
  obtain ⟨gB, cap, rfl, hbk, hge, hcap, hcap2⟩ := he
  have hf : Fre w2 (some ⟨gB, 0, none⟩) := Fre.mk hge
  have hb := hbk.by.take (k := (q.bytes q.sum).length) (by simp)
  rw [List.take_left' rfl] at hb
  have hr : Rm w3 (some ⟨gB, 0, none⟩) cap := Or.inr ⟨_, _, _, rfl, hbk, by rw [List.length_append, List.length_replicate]; omega, hcap2⟩
  have ho := H.old 0 rfl hf
  have hf0 := hf.le H.bel
  replace H := H.call k3
  refine ⟨_, _, _, _, rfl, ?_⟩
  refine ifN (fun h => absurd rfl h) (fun _ => ?_)
  refine put_pkt 0 H rfl rfl fun w4 H u => ?_
  exact ⟨H.bel, none, 0, 0, some ⟨gB, 0, none⟩, _, cap, rfl, ⟨By.nil _ _, hb.but u ho, Nat.le_refl _, hcap⟩, Fre.nil w, hf0, Rm2.none (hr.but u ho)⟩
theorem made_c {w : World} {q : Ic} (h : q.Fine) (h5 : q.body.length ≤ 65507) {A : Option Addr} {n c : Nat} (ha : By w A n q.body) (tos src dst : Int) :
    Calls Tryd.prog 57 #[.int .u8 tos, .int .u32 src, .int .u32 dst, .agg (mv q.typ q.code q.rest A n c).toArray] w (fun e w' => Bel w w' ∧ RetPk w (madeP tos src dst q) 0 e w') := (made_r h h5 ha tos src dst).mono fun e w' hk => ⟨hk.1, hk.2.weak⟩

/-- Why a packet's message is refused; 0: it is not. -/
def msgE (p : Pk) : Int := if p.err ≠ 0 then p.err else if p.proto ≠ 1 then 60 else if p.off > 0 then 60 else if p.mf = true then 60 else icBad p.body
def RetMsg (w : World) (p : Pk) (e : Ending) (w' : World) : Prop :=
  if msgE p = 0 then ∃ A c, e = .returned (.tuple #[.agg (mv (p.body.getD 0 0) (p.body.getD 1 0) (lg p.body 4) A (p.body.length - 8) c).toArray, .int .i64 0]) ∧ By w' A (p.body.length - 8) (p.body.drop 8) ∧ p.body.length - 8 ≤ c ∧ Fre w A
  else e = .returned (.tuple #[.agg (mv 0 0 0 none 0 0).toArray, .int .i64 (msgE p)])
theorem message_c {w : World} {p : Pk} (h : p.Fine) {A : Option Addr} {n c : Nat} {B : Option Addr} {m d : Nat} (hp : PkAt w p A n c B m d) :
    Calls Tryd.prog 63 #[.agg (pb p A n c B m d).toArray] w (fun e w' => Bel w w' ∧ RetMsg w p e w') := by
  refine icmp_message.run ?_
  unfold icmp_message.s
  have lb := hp.body.len
  refine own_new (l := pb p A n c B m d) (Own.refl w) fun g1 w1 H => ?_
  refine own_new (l := mv 0 0 0 none 0 0) H fun g2 w2 H => ?_
  refine ld_pkt (H.bk 1 rfl) ?_
  refine call_of (Build_e h (hp.bel H.bel)) ?_
  rintro e w3 ⟨k3, C, i, j, rfl, _⟩
  replace H := H.call k3
  refine ⟨_, _, _, _, rfl, ?_⟩
  have no : ∀ (k : Int) (w' : World), k ≠ 0 → Bel w w' → msgE p = k → Bel w w' ∧ RetMsg w p (.returned (.tuple #[.agg (mv 0 0 0 none 0 0).toArray, .int .i64 k])) w' := fun k w' hk hb he => ⟨hb, by unfold RetMsg; rw [he, if_neg hk]⟩
  refine ifN (fun h1 => ?_) (fun h1 => ?_)
  · refine put_msg 0 H rfl rfl fun w4 H u => no _ _ h1 H.bel ?_
    unfold msgE; rw [if_pos h1]
  refine ⟨_, H.cell 1 6 rfl rfl, ?_⟩
  refine ifN (fun h2 => ?_) (fun h2 => ?_)
  · refine put_msg 0 H rfl rfl fun w4 H u => no _ _ (by decide) H.bel ?_
    unfold msgE; rw [if_neg (not_not_intro h1), if_pos h2]
  refine ⟨_, H.cell 1 4 rfl rfl, ?_⟩
  refine ifD (fun h3 => ?_) (fun h3 => ?_)
  · refine put_msg 0 H rfl rfl fun w4 H u => no _ _ (by decide) H.bel ?_
    unfold msgE; rw [if_neg (not_not_intro h1), if_neg (not_not_intro h2), if_pos h3]
  refine ⟨_, H.cell 1 3 rfl rfl, ?_⟩
  refine ifB (fun h4 => ?_) (fun h4 => ?_)
  · refine put_msg 0 H rfl rfl fun w4 H u => no _ _ (by decide) H.bel ?_
    unfold msgE; rw [if_neg (not_not_intro h1), if_neg (not_not_intro h2), if_neg h3, if_pos h4]
  have em : msgE p = icBad p.body := by unfold msgE; rw [if_neg (not_not_intro h1), if_neg (not_not_intro h2), if_neg h3, if_neg (by rw [h4]; decide)]
  refine ⟨?_⟩
  rw [icmp_message.j1_eq]
  refine ⟨B, m, d, H.cell 1 10 rfl rfl, ?_⟩
  refine call_of (Parse_c (hp.body.bel H.bel) h.body hp.cb) ?_
  rintro e w4 ⟨k4, he⟩
  by_cases h5 : icBad p.body = 0
  · rw [if_pos h5] at he
    obtain ⟨A', c', rfl, hb, hc, hf⟩ := he
    have ho := H.old 0 rfl hf
    have hf0 := hf.le H.bel
    replace H := H.call k4
    refine ⟨_, _, _, _, _, _, _, rfl, ?_⟩
    refine put_msg 0 H rfl rfl fun w5 H u => ⟨H.bel, ?_⟩
    unfold RetMsg
    rw [em, if_pos h5, lb]
    exact ⟨A', c', rfl, hb.but u ho, hc, hf0⟩
  · rw [if_neg h5] at he
    subst he
    replace H := H.call k4
    refine ⟨_, _, _, _, _, _, _, rfl, ?_⟩
    exact put_msg 0 H rfl rfl fun w5 H u => no _ _ h5 H.bel em

/-! ### Echo -/
def echoE (p : Pk) : Int := if msgE p ≠ 0 then msgE p else if p.body.getD 0 0 ≠ 8 ∨ p.body.getD 1 0 ≠ 0 then 62 else if plainA p.src = false then 61 else if plainA p.dst = false then 61 else 0
def echoI (p : Pk) : Ic := ⟨0, 0, lg p.body 4, p.body.drop 8⟩
def echoP (p : Pk) : Pk := madeP p.tos p.dst p.src (echoI p)
def RetE (w : World) (k : Int) (q : Pk) (e : Ending) (w' : World) : Prop := RetPk w (if k = 0 then q else pz) k e w'
theorem RetE.no {w w' : World} {k : Int} (q : Pk) (h : k ≠ 0) : RetE w k q (.returned (.tuple #[.agg (pb pz none 0 0 none 0 0).toArray, .int .i64 k])) w' := by
  unfold RetE
  rw [if_neg h]
  exact ret_pz w w' k
theorem msgE_zero {p : Pk} (h : msgE p = 0) : p.err = 0 ∧ p.proto = 1 ∧ ¬ p.off > 0 ∧ p.mf = false ∧ icBad p.body = 0 := by
  unfold msgE at h
  by_cases h1 : p.err ≠ 0
  · rw [if_pos h1] at h; exact absurd h h1
  rw [if_neg h1] at h
  by_cases h2 : p.proto ≠ 1
  · rw [if_pos h2] at h; omega
  rw [if_neg h2] at h
  by_cases h3 : p.off > 0
  · rw [if_pos h3] at h; omega
  rw [if_neg h3] at h
  by_cases h4 : p.mf = true
  · rw [if_pos h4] at h; omega
  rw [if_neg h4] at h
  exact ⟨Decidable.of_not_not h1, Decidable.of_not_not h2, h3, by simpa using h4, h⟩
theorem echoI_fine {p : Pk} (h : p.Fine) : (echoI p).Fine := ⟨by show 0 ≤ (0 : Int) ∧ (0 : Int) ≤ 255; decide, by show 0 ≤ (0 : Int) ∧ (0 : Int) ≤ 255; decide, lg_range h.body 4, h.body.drop _, by have := h.lb; show (p.body.drop 8).length ≤ _; rw [List.length_drop]; omega⟩
/-! ### Fault -/
def faultE (p : Pk) (t c x src : Int) : Int := if mayB t c x = false then 1 else if plainA src = false then 1 else if p.err ≠ 0 then p.err else if quietP p = true then 61 else 0
def faultR (t x : Int) : Int := if t = 12 then x * 16777216 else x
def faultI (p : Pk) (t c x : Int) : Ic := ⟨t, c, faultR t x, (p.bytes p.sum).take (20 + p.opts.length + min 8 p.body.length)⟩
def faultP (p : Pk) (t c x src : Int) : Pk := madeP 0 src p.src (faultI p t c x)
theorem mayB_range {t c x : Int} (h : mayB t c x = true) : t < 13 ∧ c < 16 ∧ 0 ≤ x ∧ x ≤ 65535 ∧ (t = 12 → x ≤ 255) := by
  unfold mayB at h
  by_cases h1 : t ≥ 13
  · rw [if_pos h1] at h; cases h
  rw [if_neg h1] at h
  by_cases h2 : c ≥ codesL.getD t.toNat 0
  · rw [if_pos h2] at h; cases h
  rw [if_neg h2] at h
  have hc : codesL.getD t.toNat 0 ≤ 16 := by
    have : ∀ i : Nat, i < 13 → codesL.getD i 0 ≤ 16 := by decide
    exact this _ (by omega)
  by_cases h3 : t = 3 ∧ c = 4
  · rw [if_pos h3] at h; have := of_decide_eq_true h; omega
  rw [if_neg h3] at h
  by_cases h4 : t = 12 ∧ c = 0
  · rw [if_pos h4] at h; have := of_decide_eq_true h; omega
  rw [if_neg h4] at h
  have := of_decide_eq_true h
  omega
theorem faultI_fine {p : Pk} (h : p.Fine) (he : p.err = 0) {t c x : Int} (ht : 0 ≤ t) (hc : 0 ≤ c) (hm : mayB t c x = true) : (faultI p t c x).Fine := by
  have hr := mayB_range hm
  refine ⟨⟨ht, by show t ≤ 255; omega⟩, ⟨hc, by show c ≤ 255; omega⟩, ?_, (Pk.bytes_bytes h he p.sum).take _, ?_⟩
  · show 0 ≤ faultR t x ∧ faultR t x ≤ 4294967295
    unfold faultR
    split <;> omega
  · show ((p.bytes p.sum).take _).length ≤ _
    have := (Pk.err_zero he).2.2
    rw [List.length_take, Pk.bytes_len]
    unfold Pk.tl
    omega
theorem faultI_len {p : Pk} (he : p.err = 0) (t c x : Int) : (faultI p t c x).body.length = 20 + p.opts.length + min 8 p.body.length ∧ (faultI p t c x).body.length ≤ 68 := by
  have ho := oOK_len (Pk.err_zero he).1
  have e : (faultI p t c x).body.length = min (20 + p.opts.length + min 8 p.body.length) p.tl := by
    show ((p.bytes p.sum).take _).length = _
    rw [List.length_take, Pk.bytes_len]
  rw [e]
  unfold Pk.tl
  omega
theorem Fault_r {w : World} (hg : Gl w) {p : Pk} (h : p.Fine) {A : Option Addr} {n c : Nat} {B : Option Addr} {m d : Nat} (hp : PkAt w p A n c B m d) {t k x src : Int} (ht : 0 ≤ t ∧ t ≤ 255) (hk : 0 ≤ k ∧ k ≤ 255) (hs : 0 ≤ src ∧ src ≤ 4294967295) :
    Calls Tryd.prog 34 #[.agg (pb p A n c B m d).toArray, .int .u8 t, .int .u8 k, .int .i64 x, .int .u32 src] w (fun e w' => Bel w w' ∧ RetER w (faultE p t k x src) (faultP p t k x src) e w') := by
  refine icmp_Fault.run ?_
  unfold icmp_Fault.s
  have lb := hp.body.len
  have lo := hp.opts.len
  refine own_new (l := pb p A n c B m d) (Own.refl w) fun g1 w1 H => ?_
  refine own_new (l := pb pz none 0 0 none 0 0) H fun g2 w2 H => ?_
  have no : ∀ (z : Int) (w' : World), z ≠ 0 → Bel w w' → faultE p t k x src = z → Bel w w' ∧ RetER w (faultE p t k x src) (faultP p t k x src) (.returned (.tuple #[.agg (pb pz none 0 0 none 0 0).toArray, .int .i64 z])) w' := fun z w' hk hb he => ⟨hb, by rw [he]; exact RetER.no _ hk⟩
  refine call_of (mayBe_c (hg.bel H.bel) ht) ?_
  rintro e w3 ⟨rfl, k3⟩
  replace H := H.call k3
  refine ⟨_, rfl, ?_⟩
  refine ifNot (fun h1 => ?_) (fun h1 => ?_)
  · refine put_pkt 0 H rfl rfl fun w6 H u => no _ _ (by decide) H.bel ?_
    unfold faultE; rw [if_pos h1]
  have hr := mayB_range h1
  refine call_of (plain_c (hg.bel H.bel) hs) ?_
  rintro e w4 ⟨rfl, k4⟩
  replace H := H.call k4
  refine ⟨_, rfl, ?_⟩
  refine ifNot (fun h2 => ?_) (fun h2 => ?_)
  · refine put_pkt 0 H rfl rfl fun w6 H u => no _ _ (by decide) H.bel ?_
    unfold faultE; rw [if_neg (by rw [h1]; decide), if_pos h2]
  refine ⟨?_⟩
  rw [icmp_Fault.j1_eq]
  refine ld_pkt (H.bk 1 rfl) ?_
  refine call_of (Build_e h (hp.bel H.bel)) ?_
  rintro e w5 ⟨k5, C, i, j, rfl, hC⟩
  have H5 := H
  replace H := H.call k5
  refine ⟨_, _, _, _, rfl, ?_⟩
  refine ifN (fun h3 => ?_) (fun h3 => ?_)
  · refine put_pkt 0 H rfl rfl fun w6 H u => no _ _ h3 H.bel ?_
    unfold faultE; rw [if_neg (by rw [h1]; decide), if_neg (by rw [h2]; decide), if_pos h3]
  obtain ⟨rfl, hby, hij, hfC⟩ := hC h3
  refine ld_pkt (H.bk 1 rfl) ?_
  refine call_of (quiet_c (hg.bel H.bel) h (hp.bel H.bel)) ?_
  rintro e w6 ⟨rfl, k6⟩
  replace H := H.call k6
  refine ⟨_, rfl, ?_⟩
  refine ifB (fun h4 => ?_) (fun h4 => ?_)
  · refine put_pkt 0 H rfl rfl fun w6 H u => no _ _ (by decide) H.bel ?_
    unfold faultE; rw [if_neg (by rw [h1]; decide), if_neg (by rw [h2]; decide), if_neg (not_not_intro h3), if_pos h4]
  have e0 : faultE p t k x src = 0 := by unfold faultE; rw [if_neg (by rw [h1]; decide), if_neg (by rw [h2]; decide), if_neg (not_not_intro h3), if_neg (by rw [h4]; decide)]
  have hl := faultI_len h3 t k x
  have hby6 := hby.bel k6
  have fin : ∀ y, y = faultR t x → icmp_Fault.J2 t k src g1 g2 C p.tl j y w6 (fun e w' => Bel w w' ∧ RetER w (faultE p t k x src) (faultP p t k x src) e w') := by
    rintro y rfl
    unfold icmp_Fault.J2; intros
    rw [icmp_Fault.j2_eq]
    have etl : p.tl = 20 + p.opts.length + p.body.length := rfl
    have h65 := (Pk.err_zero h3).2.2
    refine ⟨B, m, d, H.cell 1 10 rfl rfl, ?_⟩
    refine let_as ((20 + p.opts.length : Nat) : Int) (by rw [w64 (by omega) (by omega)]; omega) ?_
    refine ⟨B, m, d, H.cell 1 10 rfl rfl, ?_⟩
    refine let_as ((min 8 p.body.length : Nat) : Int) (by split <;> omega) ?_
    refine let_as ((20 + p.opts.length + min 8 p.body.length : Nat) : Int) (by rw [w64 (by omega) (by omega)]; omega) ?_
    refine ⟨⟨by omega, by omega⟩, _, H.cell 1 7 rfl rfl, ?_⟩
    rw [Int.toNat_natCast]
    refine call_of (made_r (q := faultI p t k x) (faultI_fine h h3 ht.1 hk.1 h1) (by omega) (hby6.take (by omega)) 0 src p.src) ?_
    rintro e w8 ⟨k8, a1, n1, c1, a2, n2, c2, rfl, hp', f1, f2, r2⟩
    have o1 := H.old 0 rfl f1
    have o2 := H.old 0 rfl f2
    have hb0 := H.bel
    replace H := H.call k8
    refine ⟨_, _, _, _, _, _, _, _, _, _, _, _, _, _, _, _, rfl, ?_⟩
    refine put_pkt 0 H rfl rfl fun w9 H u9 => ⟨H.bel, ?_⟩
    unfold RetER
    rw [e0, if_pos rfl]
    exact ⟨_, _, _, _, _, _, rfl, hp'.but u9 o1 o2, f1.le hb0, f2.le hb0, r2.but u9 o1 o2⟩
  refine let_as x (w32 (by omega) (by omega)) ?_
  refine ifE (fun h5 => ?_) (fun h5 => ?_)
  · refine let_as (x * 16777216) (w32 (by omega) (by omega)) ?_
    refine ⟨?_⟩
    apply fin
    unfold faultR
    rw [if_pos h5]
  · refine ⟨?_⟩
    apply fin
    unfold faultR
    rw [if_neg h5]
theorem Fault_c {w : World} (hg : Gl w) {p : Pk} (h : p.Fine) {A : Option Addr} {n c : Nat} {B : Option Addr} {m d : Nat} (hp : PkAt w p A n c B m d) {t k x src : Int} (ht : 0 ≤ t ∧ t ≤ 255) (hk : 0 ≤ k ∧ k ≤ 255) (hs : 0 ≤ src ∧ src ≤ 4294967295) :
    Calls Tryd.prog 34 #[.agg (pb p A n c B m d).toArray, .int .u8 t, .int .u8 k, .int .i64 x, .int .u32 src] w (fun e w' => Bel w w' ∧ RetE w (faultE p t k x src) (faultP p t k x src) e w') := (Fault_r hg h hp ht hk hs).mono fun e w' hk => ⟨hk.1, hk.2.weak⟩

/-! ### About -/
def aboutE (p : Pk) : Int := if msgE p ≠ 0 then msgE p else if faultT (p.body.getD 0 0) = false then 62 else bad false (p.body.drop 8)
def RetAb (w : World) (p : Pk) (e : Ending) (w' : World) : Prop :=
  if aboutE p = 0 then ∃ A1 c1 A2 c2, e = .returned (.tuple #[.agg (hb (p.body.drop 8) A1 (hlen (p.body.drop 8) - 20) c1).toArray, .slice A2 (there (p.body.drop 8) - hlen (p.body.drop 8)) c2, .int .i64 0]) ∧
    By w' A1 (hlen (p.body.drop 8) - 20) (((p.body.drop 8).take (hlen (p.body.drop 8))).drop 20) ∧ By w' A2 (there (p.body.drop 8) - hlen (p.body.drop 8)) (((p.body.drop 8).take (there (p.body.drop 8))).drop (hlen (p.body.drop 8))) ∧
    hlen (p.body.drop 8) - 20 ≤ c1 ∧ there (p.body.drop 8) - hlen (p.body.drop 8) ≤ c2 ∧ Fre w A1 ∧ Fre w A2
  else e = .returned (.tuple #[.agg hz.toArray, .slice none 0 0, .int .i64 (aboutE p)])
def RetAbR (w : World) (p : Pk) (e : Ending) (w' : World) : Prop :=
  if aboutE p = 0 then ∃ A1 c1 A2 c2, e = .returned (.tuple #[.agg (hb (p.body.drop 8) A1 (hlen (p.body.drop 8) - 20) c1).toArray, .slice A2 (there (p.body.drop 8) - hlen (p.body.drop 8)) c2, .int .i64 0]) ∧
    By w' A1 (hlen (p.body.drop 8) - 20) (((p.body.drop 8).take (hlen (p.body.drop 8))).drop 20) ∧ By w' A2 (there (p.body.drop 8) - hlen (p.body.drop 8)) (((p.body.drop 8).take (there (p.body.drop 8))).drop (hlen (p.body.drop 8))) ∧
    hlen (p.body.drop 8) - 20 ≤ c1 ∧ there (p.body.drop 8) - hlen (p.body.drop 8) ≤ c2 ∧ Fre w A1 ∧ Fre w A2 ∧ Rm2 w' A1 c1 A2 c2
  else e = .returned (.tuple #[.agg hz.toArray, .slice none 0 0, .int .i64 (aboutE p)])
theorem About_r {w : World} (hg : GlF w) {p : Pk} (h : p.Fine) {A : Option Addr} {n c : Nat} {B : Option Addr} {m d : Nat} (hp : PkAt w p A n c B m d) :
    Calls Tryd.prog 36 #[.agg (pb p A n c B m d).toArray] w (fun e w' => Bel w w' ∧ RetAbR w p e w') := by
  refine icmp_About.run ?_
  unfold icmp_About.s
  refine own_new (l := pb p A n c B m d) (Own.refl w) fun g1 w1 H => ?_
  refine own_new (l := hz) H fun g2 w2 H => ?_
  refine ld_pkt (H.bk 1 rfl) ?_
  refine call_of (message_c h (hp.bel H.bel)) ?_
  rintro e w3 ⟨k3, he⟩
  unfold RetMsg at he
  have no : ∀ (k : Int) (w' : World), k ≠ 0 → Bel w w' → aboutE p = k → Bel w w' ∧ RetAbR w p (.returned (.tuple #[.agg hz.toArray, .slice none 0 0, .int .i64 k])) w' := fun k w' hk hb he => ⟨hb, by unfold RetAbR; rw [he, if_neg hk]⟩
  by_cases h1 : msgE p = 0
  · rw [if_pos h1] at he
    obtain ⟨M, mc, rfl, hM, hmc, hf⟩ := he
    replace H := H.call k3
    refine ⟨_, _, _, _, _, _, _, rfl, ?_⟩
    refine own_newC (l := mv 0 0 0 none 0 0) H fun g3 w4 H k4 hg3 => ?_
    have hn := hM.newer hg3
    replace hM := hM.bel k4
    refine own_putB 0 H rfl rfl (Nat.le_refl 4) fun w5 H u5 => ?_
    replace hM := hM.but1 u5 hn
    refine ifN (fun h => absurd rfl h) (fun _ => ?_)
    refine ⟨_, H.cell 0 0 rfl rfl, ?_⟩
    have hb0 := h.body.getD 0
    refine call_of (isFault_c (hg.bel H.bel) (by omega)) ?_
    rintro e w6 ⟨rfl, k6⟩
    replace H := H.call k6
    replace hM := hM.bel k6
    refine ⟨_, rfl, ?_⟩
    refine ifNot (fun h2 => ?_) (fun h2 => ?_)
    · refine put_head 1 H rfl rfl fun w6 H u => no _ _ (by decide) H.bel ?_
      unfold aboutE; rw [if_neg (not_not_intro h1), if_pos h2]
    have ea : aboutE p = bad false (p.body.drop 8) := by unfold aboutE; rw [if_neg (not_not_intro h1), if_neg (by rw [h2]; decide)]
    have hz := icBad_zero (msgE_zero h1).2.2.2.2
    refine ⟨M, p.body.length - 8, mc, H.cell 0 3 rfl rfl, ?_⟩
    refine call_of (Peek_r hM (h.body.drop _) hmc (by omega)) ?_
    rintro e w7 ⟨k7, he⟩
    by_cases h3 : bad false (p.body.drop 8) = 0
    · rw [if_pos h3] at he
      obtain ⟨A1, c1, A2, c2, rfl, b1, b2, l1, l2, f1, f2, r2⟩ := he
      have o1 := H.old 1 rfl f1
      have o2 := H.old 1 rfl f2
      have hb0 := H.bel
      replace H := H.call k7
      refine ⟨_, _, _, _, _, _, _, _, _, _, _, _, _, _, _, _, rfl, ?_⟩
      refine put_head 1 H rfl rfl fun w8 H u8 => ⟨H.bel, ?_⟩
      unfold RetAbR
      rw [ea, if_pos h3]
      exact ⟨A1, c1, A2, c2, rfl, b1.but u8 o1, b2.but u8 o2, l1, l2, f1.le hb0, f2.le hb0, r2.but u8 o1 o2⟩
    · rw [if_neg h3] at he
      subst he
      replace H := H.call k7
      refine ⟨_, _, _, _, _, _, _, _, _, _, _, _, _, _, _, _, rfl, ?_⟩
      exact put_head 1 H rfl rfl fun w8 H u8 => no _ _ h3 H.bel ea
  · rw [if_neg h1] at he
    subst he
    replace H := H.call k3
    refine ⟨_, _, _, _, _, _, _, rfl, ?_⟩
    refine own_new (l := mv 0 0 0 none 0 0) H fun g3 w4 H => ?_
    refine own_put 0 H rfl rfl (Nat.le_refl 4) fun w5 H => ?_
    refine ifN (fun _ => ?_) (fun h => absurd h h1)
    refine put_head 1 H rfl rfl fun w6 H u => no _ _ h1 H.bel ?_
    unfold aboutE; rw [if_pos h1]
theorem RetAbR.weak {w w' : World} {p : Pk} {e : Ending} (k : RetAbR w p e w') : RetAb w p e w' := by
  unfold RetAbR at k
  unfold RetAb
  by_cases h0 : aboutE p = 0
  · rw [if_pos h0] at k ⊢
    obtain ⟨A1, c1, A2, c2, h1, h2, h3, h4, h5, h6, h7, _⟩ := k
    exact ⟨A1, c1, A2, c2, h1, h2, h3, h4, h5, h6, h7⟩
  · rw [if_neg h0] at k ⊢
    exact k
theorem About_c {w : World} (hg : GlF w) {p : Pk} (h : p.Fine) {A : Option Addr} {n c : Nat} {B : Option Addr} {m d : Nat} (hp : PkAt w p A n c B m d) :
    Calls Tryd.prog 36 #[.agg (pb p A n c B m d).toArray] w (fun e w' => Bel w w' ∧ RetAb w p e w') := (About_r hg h hp).mono fun e w' hk => ⟨hk.1, hk.2.weak⟩
end Go.Proofs.YtphbdmafchjjeaaDoorS
