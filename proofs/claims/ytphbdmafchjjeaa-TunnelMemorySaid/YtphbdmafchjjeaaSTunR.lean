/- What is sealed comes out again: in plain words.
   Conditions: an outer record and a frame that may be sealed. -/
import Derived.Test.YtphbdmafchjjeaaSTunO
import Derived.Test.YtphbdmafchjjeaaSTSumP
namespace Go.Proofs.YtphbdmafchjjeaaS
open Go Go.RowKit Go.Proofs Go.Proofs.YtphbdmafchjjeaaX
set_option maxRecDepth 100000
set_option linter.unusedVariables false
set_option linter.unusedSectionVars false
set_option linter.unusedSimpArgs false

/-- The sealed bytes with other flags and reserved bytes in the tunnel's header. -/
def gV (o : Ot) (fl r0 r1 r2 r3 : Int) : List Int := [fl, r0, r1, r2, o.vni / 65536 % 256, o.vni / 256 % 256, o.vni % 256, r3]
def gPk (o : Ot) (f : Fr) (fl r0 r1 r2 r3 : Int) : Pk := ⟨0, 0, true, false, 0, o.ttl, 17, o.src, o.dst, [], uRaw o.sp o.dp (gV o fl r0 r1 r2 r3 ++ f.bytes) 0⟩
theorem gPk_own (o : Ot) (f : Fr) : sPk o f = gPk o f 8 0 0 0 0 := by
  have e : sBody o f = uRaw o.sp o.dp (gV o 8 0 0 0 0 ++ f.bytes) 0 := by
    unfold sBody
    rw [uBytes_off]
    have e2 : vxb o.vni f.bytes = gV o 8 0 0 0 0 ++ f.bytes := by
      unfold vxb gV
      rw [be4]
      have e3 : o.vni * 256 / 16777216 % 256 = o.vni / 65536 % 256 := by omega
      have e4 : o.vni * 256 / 65536 % 256 = o.vni / 256 % 256 := by omega
      have e5 : o.vni * 256 / 256 % 256 = o.vni % 256 := by omega
      have e6 : o.vni * 256 % 256 = 0 := by omega
      rw [e3, e4, e5, e6]
    rw [e2]
  unfold sPk gPk
  rw [e]
section
variable {o : Ot} {f : Fr} (ho : o.Fine) (hf : f.Fine) (hv : 0 ≤ o.vni ∧ o.vni ≤ 16777215) (he : f.err = 0) {fl r0 r1 r2 r3 : Int} (hfl : 0 ≤ fl ∧ fl ≤ 255) (h0 : 0 ≤ r0 ∧ r0 ≤ 255) (h1 : 0 ≤ r1 ∧ r1 ≤ 255) (h2 : 0 ≤ r2 ∧ r2 ≤ 255) (h3 : 0 ≤ r3 ∧ r3 ≤ 255)
theorem gV_len : (gV o fl r0 r1 r2 r3 ++ f.bytes).length = 22 + f.body.length := by
  rw [List.length_append, f.len]
  show 8 + (14 + f.body.length) = _
  omega
include ho hf he hfl h0 h1 h2 h3
theorem gV_bytes : Bytes (gV o fl r0 r1 r2 r3 ++ f.bytes) := by
  refine Bytes.append ?_ (Fr.bytes_bytes hf)
  unfold gV
  exact Bytes.cons hfl (Bytes.cons h0 (Bytes.cons h1 (Bytes.cons h2 (Bytes.cons (by omega) (Bytes.cons (by omega) (Bytes.cons (by omega) (Bytes.cons h3 Bytes.nil)))))))
theorem gPk_fine : (gPk o f fl r0 r1 r2 r3).Fine :=
  have hl := ferr_len he
  have hg := gV_len (o := o) (f := f) (fl := fl) (r0 := r0) (r1 := r1) (r2 := r2) (r3 := r3)
  ⟨by show (0 : Int) ≤ 0 ∧ (0 : Int) ≤ 255; decide, by show (0 : Int) ≤ 0 ∧ (0 : Int) ≤ 65535; decide, by show (-9223372036854775808 : Int) ≤ 0 ∧ (0 : Int) ≤ 9223372036854775807; decide, ho.ttl, by show (0 : Int) ≤ 17 ∧ (17 : Int) ≤ 255; decide, ho.src, ho.dst, Bytes.nil,
    uRaw_bytes _ _ (gV_bytes ho hf he hfl h0 h1 h2 h3) 0, Nat.zero_le _, by show (uRaw o.sp o.dp (gV o fl r0 r1 r2 r3 ++ f.bytes) 0).length ≤ _; rw [uRaw_len]; omega⟩
theorem gPk_err : (gPk o f fl r0 r1 r2 r3).err = 0 := by
  have hl := ferr_len he
  have hg := gV_len (o := o) (f := f) (fl := fl) (r0 := r0) (r1 := r1) (r2 := r2) (r3 := r3)
  have hu := uRaw_len o.sp o.dp (gV o fl r0 r1 r2 r3 ++ f.bytes) 0
  unfold Pk.err
  rw [if_pos (by show oOK [] = true; decide +kernel), if_pos, if_pos]
  · show 20 + 0 + (uRaw o.sp o.dp (gV o fl r0 r1 r2 r3 ++ f.bytes) 0).length ≤ 65535
    omega
  · show ordB 0 ((uRaw o.sp o.dp (gV o fl r0 r1 r2 r3 ++ f.bytes) 0).length : Int) false = true
    unfold ordB
    rw [Bool.and_eq_true]
    refine ⟨decide_eq_true ⟨by decide, by decide, by decide, by omega⟩, rfl⟩
theorem gPk_reads (tail : List Int) : pkOf ((gPk o f fl r0 r1 r2 r3).bytes (gPk o f fl r0 r1 r2 r3).sum ++ tail) = gPk o f fl r0 r1 r2 r3 ∧ bad true ((gPk o f fl r0 r1 r2 r3).bytes (gPk o f fl r0 r1 r2 r3).sum ++ tail) = 0 := by
  have R := reads_own (gPk_fine ho hf he hfl h0 h1 h2 h3) (gPk_err ho hf he hfl h0 h1 h2 h3) tail
  refine ⟨?_, R.whole⟩
  have a := R.head ()
  have b := R.opts
  have c := R.rest
  generalize (gPk o f fl r0 r1 r2 r3).bytes (gPk o f fl r0 r1 r2 r3).sum ++ tail = x at *
  generalize gPk o f fl r0 r1 r2 r3 = p at *
  unfold hdF at a
  simp only [Prod.mk.injEq] at a
  obtain ⟨a1, a2, a3, a4, a5, a6, a7, a8, a9, _⟩ := a
  unfold pkOf
  unfold optsOf at b
  rw [a1, a2, a3, a4, a5, a6, a7, a8, a9, b, c]
include hv
theorem gPk_open (hsp : 0 ≤ o.sp ∧ o.sp ≤ 65535) (tail : List Int) : oBad ((gPk o f fl r0 r1 r2 r3).bytes (gPk o f fl r0 r1 r2 r3).sum ++ tail) = (if fl / 8 % 2 = 0 then 77 else 0) ∧ rO (gPk o f fl r0 r1 r2 r3) 0 = o ∧ rF (gPk o f fl r0 r1 r2 r3) 0 = f := by
  obtain ⟨e1, e2⟩ := gPk_reads ho hf he hfl h0 h1 h2 h3 tail
  have hl := ferr_len he
  have hg := gV_len (o := o) (f := f) (fl := fl) (r0 := r0) (r1 := r1) (r2 := r2) (r3 := r3)
  have hub : uBody (gPk o f fl r0 r1 r2 r3).body = gV o fl r0 r1 r2 r3 ++ f.bytes := uRaw_body (by omega) 0
  have ht := hf.typ
  have wt : wd f.bytes 12 = f.typ := by
    show f.typ / 256 % 256 * 256 + f.typ % 256 = f.typ
    omega
  have hof : ofF f.bytes = f := by
    have : ofF f.bytes = ⟨f.d0, f.d1, f.d2, f.d3, f.d4, f.d5, f.s0, f.s1, f.s2, f.s3, f.s4, f.s5, wd f.bytes 12, f.body⟩ := rfl
    rw [this, wt]
  have hfb : fBad f.bytes = 0 := by
    unfold fBad
    rw [if_neg (by rw [f.len]; omega), if_neg (by rw [f.len]; omega), wt]
    unfold Fr.err at he
    rwa [if_neg (by omega)] at he
  refine ⟨?_, ?_, ?_⟩
  · unfold oBad
    rw [if_neg (fun h => h e2), e1]
    unfold oB2
    rw [if_neg (by show ¬ ((false : Bool) = true ∨ (0 : Int) ≠ 0); decide), if_neg (by show ¬ ((17 : Int) ≠ 17); decide)]
    unfold oB3
    have hu0 : uBad (gPk o f fl r0 r1 r2 r3).src (gPk o f fl r0 r1 r2 r3).dst (gPk o f fl r0 r1 r2 r3).body = 0 := by
      show uBad o.src o.dst (uRaw o.sp o.dp (gV o fl r0 r1 r2 r3 ++ f.bytes) 0) = 0
      rw [uRaw_bad (by omega) (by decide), if_neg (fun h => h.1 rfl)]
    rw [if_neg (fun h => h hu0), hub]
    unfold oB4
    rw [if_neg (by omega)]
    show (if fl / 8 % 2 = 0 then 77 else fBad f.bytes) = _
    rw [hfb]
  · unfold rO
    rw [if_pos rfl, hub]
    have w0 := (uRaw_get o.sp o.dp (gV o fl r0 r1 r2 r3 ++ f.bytes) 0).1
    have w2 := (uRaw_get o.sp o.dp (gV o fl r0 r1 r2 r3 ++ f.bytes) 0).2.1
    have hdp := ho.dp
    show (⟨o.src, o.dst, wd (uRaw o.sp o.dp (gV o fl r0 r1 r2 r3 ++ f.bytes) 0) 0, wd (uRaw o.sp o.dp (gV o fl r0 r1 r2 r3 ++ f.bytes) 0) 2, o.ttl, _⟩ : Ot) = o
    rw [w0, w2]
    have e5 : o.sp / 256 % 256 * 256 + o.sp % 256 = o.sp := by omega
    have e6 : o.dp / 256 % 256 * 256 + o.dp % 256 = o.dp := by omega
    have e7 : lg (gV o fl r0 r1 r2 r3 ++ f.bytes) 4 / 256 = o.vni := by
      show ((o.vni / 65536 % 256 * 256 + o.vni / 256 % 256) * 65536 + (o.vni % 256 * 256 + r3)) / 256 = o.vni
      omega
    rw [e5, e6, e7]
  · unfold rF
    rw [if_pos rfl, hub]
    exact hof
end
end Go.Proofs.YtphbdmafchjjeaaS
