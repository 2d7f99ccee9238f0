/- Package weftlaw7: what the six calls of tunnel answer where they answer without an error, each in a block of its own.
   Conditions: the frame may be sealed; the datagram is not too long. -/
import Derived.Test.YtphbdmafchjjeaaSMemB
namespace Go.Proofs.YtphbdmafchjjeaaS
open Go Go.RowKit Go.Proofs Go.Proofs.YtphbdmafchjjeaaX
set_option maxRecDepth 100000
set_option linter.unusedVariables false
set_option linter.unusedSectionVars false
set_option linter.unusedSimpArgs false

/-- Bytes that were answered, in a block of their own. -/
def RetB (w : World) (l : List Int) (e : Ending) (w' : World) : Prop := ∃ g, e = .returned (.tuple #[.slice (some ⟨g, 0, none⟩) l.length l.length, .int .i64 0]) ∧ Own w w' [(g, 5, bv l)]
section
variable {w : World} {o : Ot} (ho : o.Fine) {f : Fr} (hf : f.Fine) (hz : sErr o f = 0)
include ho hf hz
theorem seal_o {A : Option Addr} {n c : Nat} (h : By w A n f.body) : Calls Try.prog 7 #[.agg (ov o).toArray, .agg (fv f A n c).toArray] w (RetB w (sOut o f)) :=
  call_of (SealO_c ho hf h) fun e w' k => k.2 hz
theorem open_o {A : Option Addr} {n c : Nat} (h : By w A n (sOut o f)) (hc : n ≤ c) : Calls Try.prog 8 #[.slice A n c] w (fun e w' => ∃ g, e = .returned (.tuple #[.agg (ov o).toArray, .agg (fv f (some ⟨g, 0, none⟩) f.body.length f.body.length).toArray, .int .i64 0]) ∧ Own w w' [(g, 5, bv f.body)]) :=
  call_of (OpenO_c h (sOut_bytes ho hf hz) hc (by have := h.len; have := sOut_len (o := o) (f := f); omega)) fun e w' k => own_openO ho hf hz k
end
section
variable {w : World} {f : Fr} (hf : f.Fine) (he : f.err = 0)
include hf he
theorem raw_o {A : Option Addr} {n c : Nat} (h : By w A n f.body) : Calls Try.prog 9 #[.agg (fv f A n c).toArray] w (RetB w f.bytes) :=
  call_of (BuildFrame_c hf h) fun e w' k => k.2 he
theorem fr_o {A : Option Addr} {n c : Nat} (h : By w A n f.bytes) (hc : n ≤ c) : Calls Try.prog 10 #[.slice A n c] w (fun e w' => ∃ g, e = .returned (.tuple #[.agg (fv f (some ⟨g, 0, none⟩) f.body.length f.body.length).toArray, .int .i64 0]) ∧ Own w w' [(g, 5, bv f.body)]) := by
  refine call_of (ParseFrame_c h (Fr.bytes_bytes hf) hc) ?_
  rintro e w' ⟨_, k⟩
  have hl := ferr_len he
  have ht := hf.typ
  have wt : wd f.bytes 12 = f.typ := by
    show f.typ / 256 % 256 * 256 + f.typ % 256 = f.typ
    omega
  have hof : ofF f.bytes = f := by
    have : ofF f.bytes = ⟨f.d0, f.d1, f.d2, f.d3, f.d4, f.d5, f.s0, f.s1, f.s2, f.s3, f.s4, f.s5, wd f.bytes 12, f.body⟩ := rfl
    rw [this, wt]
  have hfb : fBad f.bytes = 0 := by
    unfold fBad
    rw [if_neg (by rw [f.len]; omega), if_neg (by rw [f.len]; omega), wt]
    unfold Fr.err at he
    rwa [if_neg (by omega)] at he
  rw [if_pos hfb] at k
  obtain ⟨g, rfl, H⟩ := k
  have el : f.bytes.length - 14 = f.body.length := by rw [f.len]; omega
  rw [hof, el]
  exact ⟨g, rfl, H⟩
end
section
variable {w : World} {src sp dp : Int} {body : List Int} (hs : 0 ≤ src ∧ src ≤ 4294967295) (hsp : 0 ≤ sp ∧ sp ≤ 65535) (hdp : 0 ≤ dp ∧ dp ≤ 65535) (hb : Bytes body) (hl : body.length ≤ 65527)
include hs hsp hdp hb hl
theorem u_o {A : Option Addr} {n c : Nat} (h : By w A n body) : Calls Try.prog 11 #[.int .u32 src, .int .u32 src, .agg (dv sp dp A n c).toArray, .bool true] w (RetB w (uBytes src src sp dp body true)) :=
  call_of (BuildUDP_c hs hs hsp hdp h hb true) fun e w' k => k.2 (by omega)
theorem c_o {A : Option Addr} {n c : Nat} (h : By w A n (uBytes src src sp dp body true)) (hc : n ≤ c) : Calls Try.prog 12 #[.int .u32 src, .int .u32 src, .slice A n c] w (fun e w' => ∃ g, e = .returned (.tuple #[.agg (dv sp dp (some ⟨g, 0, none⟩) body.length body.length).toArray, .int .i64 0]) ∧ Own w w' [(g, 5, bv body)]) := by
  have hu := uBytes_read (src := src) (dst := src) (sp := sp) (dp := dp) hb hl hs hs
  refine call_of (ParseUDP_c hs hs h (uRaw_bytes sp dp hb _) hc) ?_
  rintro e w' ⟨_, k⟩
  rw [if_pos hu] at k
  obtain ⟨g, rfl, H⟩ := k
  have e0 : wd (uBytes src src sp dp body true) 0 = sp := by unfold uBytes; rw [(uRaw_get sp dp body _).1]; omega
  have e2 : wd (uBytes src src sp dp body true) 2 = dp := by unfold uBytes; rw [(uRaw_get sp dp body _).2.1]; omega
  have e4 : (wd (uBytes src src sp dp body true) 4).toNat - 8 = body.length := by unfold uBytes; rw [uRaw_n hl]; omega
  have e5 : uBody (uBytes src src sp dp body true) = body := by unfold uBytes; rw [uRaw_body hl]
  rw [e0, e2, e4]
  rw [e5] at H
  exact ⟨g, rfl, H⟩
end

/-! ### the copies -/
section
variable {w0 : World} {oL : Option Blk} {AL : Option Addr} {N cL : Nat} {bs : List Bl} (qL : RV 29 1 oL AL N cL (bs.map blv)) (hl : bs.length = N) (hN : N ≤ 1000000) (hn : ∀ p ∈ bs, p.2.length ≤ 1000000)
  (hp : ∀ (j : Nat) (p p' : Bl), bs[j]? = some p → bs[j + 6]? = some p' → j / 6 % 2 = 0 → p.2 = p'.2)
include qL hl hN hn hp
theorem unt_l4 {oW : Option Blk} {AW : Option Addr} {cW : Nat} {ws : List Wc} {cs : List Lst} (qW : RV 29 1 oW AW N cW (ws.map Wc.v)) (hw : Wok cs ws 0 bs) : ∀ (q i : Nat) (w : World), N - i < q → i ≤ N → OF w0 w (oL.toList ++ (oW.toList ++ bs.map blk)) cs →
    weftlaw7_untouched.L4 q AL N cL AW N cW (i : Int) w (Yes w0) := by
  have hL : Has oL (oL.toList ++ (oW.toList ++ bs.map blk)) := fun x hx => List.mem_append.2 (Or.inl hx)
  have hb : ∀ p ∈ bs, blk p ∈ (oL.toList ++ (oW.toList ++ bs.map blk)) := fun p hp => List.mem_append.2 (Or.inr (List.mem_append.2 (Or.inr (List.mem_map.2 ⟨p, hp, rfl⟩))))
  intro q
  induction q with
  | zero => intro i w h; omega
  | succ q ih =>
    intro i w hq hi H
    unfold weftlaw7_untouched.L4; intros
    rw [weftlaw7_untouched.l4_eq]
    refine let_as ((i + 6 : Nat) : Int) (by rw [w64 (by omega) (by omega)]; omega) ?_
    refine ifD (fun h => ?_) (fun h => ?_)
    · refine draws (fun w' => OF w0 w' (oL.toList ++ (oW.toList ++ bs.map blk)) cs) (H.call (Bel.refl w).drew) fun w2 e2 => ?_
      have H2 : OF w0 w2 (oL.toList ++ (oW.toList ++ bs.map blk)) cs := by rw [e2]; exact H.call (Bel.refl w).drew
      refine let_as ((i : Int) / 6) (by rw [td (by omega), w64 (by omega) (by omega)]) ?_
      refine let_as ((i : Int) / 6 % 2) (tm (by omega)) ?_
      refine ifE (fun h6 => ?_) (fun h6 => ?_)
      · obtain ⟨p, hpi⟩ := at_lt hl (i := i) (by omega)
        obtain ⟨p', hpj⟩ := at_lt hl (i := i + 6) (by omega)
        have ee := hp i p p' hpi hpj (by omega)
        obtain ⟨a, ea, ra⟩ := rv_at qL (i := i) (by omega) (map_at hpi)
        obtain ⟨b, eb, rb⟩ := rv_at qL (i := i + 6) (by omega) (map_at hpj)
        have pm := hn p (List.mem_of_getElem? hpi)
        refine ⟨a, ea, ⟨by omega, by omega⟩, _, _, _, fun w' h => ra h.own hL, ?_⟩
        refine let_as ((i + 6 : Nat) : Int) (by rw [w64 (by omega) (by omega)]; omega) ?_
        refine ⟨b, eb, ⟨by omega, by omega⟩, _, _, _, fun w' h => rb h.own hL, ?_⟩
        have y2 : By w2 (some ⟨p'.1, 0, none⟩) p'.2.length p.2 := by
          rw [ee]
          exact blk_by H2.own (hb p' (List.mem_of_getElem? hpj))
        refine call_of (same_t (blk_by H2.own (hb p (List.mem_of_getElem? hpi))) y2 (by omega)) ?_
        rintro e w3 ⟨rfl, k3⟩
        have H3 := H2.call k3
        refine ⟨_, rfl, H3, ?_⟩
        refine ifNot (fun h => by cases h) (fun _ => ?_)
        refine let_as ((i + 1 : Nat) : Int) (by rw [w64 (by omega) (by omega)]; omega) ?_
        exact ih (i + 1) w3 (by omega) (by omega) H3 ..
      · refine let_as ((i + 1 : Nat) : Int) (by rw [w64 (by omega) (by omega)]; omega) ?_
        exact ih (i + 1) w2 (by omega) (by omega) H2 ..
    · refine ⟨N + 1, ?_⟩
      have k := unt_l5 (w0 := w0) (cs := cs) qL qW hN bs [] (N + 1) 0 w (by omega) rfl (by simp [hl]) rfl hw (fun j p h => by simp at h) hn H
      exact k ..
theorem unt_l2 : ∀ (q i : Nat) (w : World) (oW : Option Blk) (AW : Option Addr) (cW : Nat) (ws : List Wc) (cs : List Lst), N - i < q → i ≤ N → OF w0 w (oW.toList ++ (oL.toList ++ bs.map blk)) cs → RV 29 1 oW AW i cW (ws.map Wc.v) → ws.length = i →
    (∀ (k : Nat) (p : Bl), k < i → bs[k]? = some p → ∃ x, ws[k]? = some x ∧ x.l = p.2 ∧ x.lst ∈ cs) → weftlaw7_untouched.L2 q AL N cL AW i cW (i : Int) w (Yes w0) := by
  intro q
  induction q with
  | zero => intro i w oW AW cW ws cs h; omega
  | succ q ih =>
    intro i w oW AW cW ws cs hq hi H qW hwl hw
    unfold weftlaw7_untouched.L2; intros
    rw [weftlaw7_untouched.l2_eq]
    refine ifD (fun h => ?_) (fun h => ?_)
    · obtain ⟨p, hpi⟩ := at_lt hl (i := i) (by omega)
      have pm := List.mem_of_getElem? hpi
      have pn := hn p pm
      obtain ⟨a, ea, ra⟩ := rv_at qL (i := i) (by omega) (map_at hpi)
      refine ⟨a, ea, ⟨by omega, by omega⟩, _, _, _, ra H.own (fun x hx => List.mem_append.2 (Or.inr (List.mem_append.2 (Or.inl hx)))), ?_⟩
      have y := blk_by H.own (p := p) (List.mem_append.2 (Or.inr (List.mem_append.2 (Or.inr (List.mem_map.2 ⟨p, pm, rfl⟩)))))
      refine buf_app (Buf.nil (Own.refl w)) y (by omega) fun A5 c5 w5 q5 => ?_
      have y5 := q5.by
      rw [List.nil_append] at y5
      have ne5 := H.new_ne q5.fre
      replace H := H.call q5.own.bel
      replace H := H.add (x := (A5, 0 + p.2.length, p.2)) y5 (fun _ => ne5)
      refine let_as w5.heap.size rfl (let_as (w5.alloc (.cells [Value.slice A5 (0 + p.2.length) c5].toArray 29)) rfl ?_)
      refine rv_apps (v := [Wc.v ⟨A5, 0 + p.2.length, c5, p.2⟩]) (m := 1) (H.call ((Bel.refl w5).alloc _)) qW rfl (by decide) rfl (Bk.new w5 _ _).at (by omega) (by omega) fun oW' AW' cW' wb H' qW' => ?_
      refine let_as ((i + 1 : Nat) : Int) (by rw [w64 (by omega) (by omega)]; omega) ?_
      have k := ih (i + 1) wb oW' AW' cW' (ws ++ [⟨A5, 0 + p.2.length, c5, p.2⟩]) _ (by omega) (by omega) H' (by rw [List.map_append]; exact qW') (by simp [hwl]) (fun k x hk hx => by
        by_cases hk2 : k < i
        · obtain ⟨y, e1, e2, e3⟩ := hw k x hk2 hx
          exact ⟨y, by rw [List.getElem?_append_left (by omega)]; exact e1, e2, List.mem_cons_of_mem _ e3⟩
        · have : k = i := by omega
          subst this
          rw [hpi] at hx
          injection hx with hx
          subst hx
          exact ⟨_, by rw [List.getElem?_append_right (by omega), hwl, Nat.sub_self]; rfl, rfl, List.mem_cons_self⟩)
      exact k ..
    · have e : i = N := by omega
      subst e
      refine ⟨i + 1, ?_⟩
      have k := unt_l4 (w0 := w0) qL hl hN hn hp qW (fun k p hk => by
        have : k < i := by have := (List.getElem?_eq_some_iff.1 hk).1; omega
        rw [Nat.zero_add]
        exact hw k p this hk) (i + 1) 0 w (by omega) (by omega) (H.perm (List.perm_append_comm_assoc _ _ _))
      exact k ..
end
end Go.Proofs.YtphbdmafchjjeaaS
