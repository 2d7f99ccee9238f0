/- Package nat: carried.
   Conditions: bytes are 0 to 255; what is turned has at least eight bytes. -/
import Derived.Test.YtphbdmafchjjeaaDoorHSNatC
namespace Go.Proofs.YtphbdmafchjjeaaDoorS
open Go Go.RowKit Go.Proofs Go.Proofs.YtphbdmafchjjeaaDoorX
set_option maxRecDepth 100000
set_option linter.unusedVariables false
set_option linter.unusedSectionVars false
set_option linter.unusedSimpArgs false

theorem memB {w0 w : World} {L : List Blk} (h : Own w0 w L) {p : Blk} (hp : p ∈ L) : Bk w p.1 p.2.1 p.2.2 := by
  obtain ⟨i, hi⟩ := List.mem_iff_getElem?.1 hp
  exact h.bk i (g := p.1) (t := p.2.1) (l := p.2.2) hi
theorem of_newN {w0 a : World} {L : List Blk} {cs : List Lst} {t : TypeId} {l : List Value} {K : Nat → World → Prop} (h : OF w0 a L cs) (hk : ∀ g w1, OF w0 w1 ((g, t, l) :: L) cs → K g w1) : Let a.heap.size fun g => Let (a.alloc (.cells l.toArray t)) (K g) := hk _ _ (h.new t l)
theorem perm4 {α : Type} {a b c d e : α} {M : List α} : (a :: b :: c :: d :: e :: M).Perm (e :: a :: b :: c :: d :: M) := by
  classical
  rw [List.perm_iff_count]
  intro x
  simp only [List.count_cons]
  omega
theorem drop4 {w0 w : World} {a b c d e : Blk} {M : List Blk} {cs : List Lst} (h : OF w0 w (e :: a :: b :: c :: d :: M) cs) : OF w0 w (e :: M) cs :=
  (h.perm (M := a :: b :: c :: d :: e :: M) perm4.symm).tail.tail.tail.tail
/-- The sum's field of an echo. -/
def echoS (b : List Int) (s u : Tp) (whole : Bool) : Int := if whole = true ∧ s.sp ≠ u.sp ∧ overV (wd b 2) [s.sp] [u.sp] = 0 ∧ blankV 2 b 0 = true then 65535 else overV (wd b 2) [s.sp] [u.sp]
def udpS (b : List Int) (s u : Tp) : Int := if overV (wd b 6) (wsV s) (wsV u) = 0 then 65535 else overV (wd b 6) (wsV s) (wsV u)
/-- What a packet carries, turned from s to u. -/
def carV (b : List Int) (proto : Int) (s u : Tp) (whole : Bool) : List Int :=
  if proto = 1 then setw (setw b 4 u.sp) 2 (echoS (setw b 4 u.sp) s u whole)
  else if proto = 17 then (if wd (setw (setw b 0 u.sp) 2 u.dp) 6 ≠ 0 then setw (setw (setw b 0 u.sp) 2 u.dp) 6 (udpS (setw (setw b 0 u.sp) 2 u.dp) s u) else setw (setw b 0 u.sp) 2 u.dp)
  else if 18 ≤ b.length then setw (setw (setw b 0 u.sp) 2 u.dp) 16 (overV (wd (setw (setw b 0 u.sp) 2 u.dp) 16) (wsV s) (wsV u)) else setw (setw b 0 u.sp) 2 u.dp
theorem carV_len (b : List Int) (proto : Int) (s u : Tp) (whole : Bool) : (carV b proto s u whole).length = b.length := by
  unfold carV
  split
  · rw [setw_len, setw_len]
  · split
    · split
      · rw [setw_len, setw_len, setw_len]
      · rw [setw_len, setw_len]
    · split
      · rw [setw_len, setw_len, setw_len]
      · rw [setw_len, setw_len]
section
variable {w0 w : World} {gB o n c : Nat} {pre b post : List Int} {M : List Blk} {cs : List Lst} {s u : Tp} {proto : Int} {whole : Bool}
def RetC (w0 : World) (gB : Nat) (l : List Int) (M : List Blk) (cs : List Lst) (e : Ending) (w' : World) : Prop := e = .returned (.tuple #[]) ∧ OF w0 w' ((gB, 5, bv l) :: M) cs
theorem ws_one {g : Nat} {s : Tp} (h : Bk w g 129 (wvs (wsV s))) : Ws w (cutA (some ⟨g, 0, none⟩) 4 6 1) 1 [s.sp] := by
  have e : cutA (some (⟨g, 0, none⟩ : Addr)) 4 6 1 = some ⟨g, 4, none⟩ := by
    unfold cutA
    rw [if_neg (by decide)]
    simp [mulS, add_blk]
  rw [e]
  exact Ws.of (o := 4) (n := 1) h (Nat.le_of_lt (Nat.lt_succ_self 5))
theorem ws_all {g : Nat} {s : Tp} (h : Bk w g 129 (wvs (wsV s))) : Ws w (some ⟨g, 0, none⟩) 6 (wsV s) := Ws.of (o := 0) (n := 6) h (Nat.le_refl 6)
theorem carried_j1 (H : OF w0 w ((gB, 5, bv (pre ++ (b ++ post))) :: M) cs) (ho : pre.length = o) (hn : b.length = n) (hb : Bytes b) (hs : s.Fine) (hu : u.Fine) (h8 : 8 ≤ n) (hm : n ≤ 1000000) {R : Ending → World → Prop} (hR : ∀ w', OF w0 w' ((gB, 5, bv (pre ++ (carV b proto s u whole ++ post))) :: M) cs → R (.returned (.tuple #[])) w')
    {g8 g10 g11 : Nat} (m8 : ((g8, 32, tpv u) : Blk) ∈ M) (m10 : ((g10, 129, wvs (wsV s)) : Blk) ∈ M) (m11 : ((g11, 129, wvs (wsV u)) : Blk) ∈ M) :
    nat_carried.J1 (some ⟨gB, o, none⟩) n c proto whole g8 g10 g11 w R := by
  have b8 : ∀ {w' : World} {X : List Int}, OF w0 w' ((gB, 5, bv X) :: M) cs → Bk w' g8 32 (tpv u) := fun h => memB h.own (List.mem_cons_of_mem _ m8)
  have b10 : ∀ {w' : World} {X : List Int}, OF w0 w' ((gB, 5, bv X) :: M) cs → Bk w' g10 129 (wvs (wsV s)) := fun h => memB h.own (List.mem_cons_of_mem _ m10)
  have b11 : ∀ {w' : World} {X : List Int}, OF w0 w' ((gB, 5, bv X) :: M) cs → Bk w' g11 129 (wvs (wsV u)) := fun h => memB h.own (List.mem_cons_of_mem _ m11)
  have hsp := hu.sp
  have hdp := hu.dp
  unfold nat_carried.J1; intros
  rw [nat_carried.j1_eq]
  unfold carV at hR
  refine ifE (fun h1 => ?_) (fun h1 => ?_)
  · rw [if_pos h1] at hR
    refine ⟨_, (b8 H).cell 3 rfl, ?_⟩
    refine call_of (putw_c H ho hn (i := 4) rfl (by omega) (by omega) hsp) ?_
    rintro e w1 ⟨rfl, H1⟩
    have hb1 := setw_bytes hb 4 hsp
    have hn1 : (setw b 4 u.sp).length = n := by rw [setw_len]; exact hn
    generalize setw b 4 u.sp = x at H1 hb1 hn1 hR
    refine ⟨rfl, ?_⟩
    refine draws (fun _ => True) True.intro fun w2 e2 => ?_
    replace H1 : OF w0 w2 ((gB, 5, bv (pre ++ (x ++ post))) :: M) cs := by rw [e2]; exact H1.call (Bel.refl w1).drew
    refine ⟨⟨by decide, by decide⟩, ⟨by decide, by decide⟩, ⟨by decide, by decide⟩, ⟨by decide, by decide⟩, ?_⟩
    refine call_of (nword_c (by_part (H1.own.bk 0 rfl) ho hn1) hb1 (i := 2) rfl (by omega) (by omega)) ?_
    rintro e w3 ⟨rfl, k3⟩
    refine ⟨_, rfl, True.intro, ?_⟩
    replace H1 := H1.call k3
    have ws1 : Wrds [s.sp] := fun z hz => by rw [List.mem_singleton.1 hz]; exact hs.sp
    have ws2 : Wrds [u.sp] := fun z hz => by rw [List.mem_singleton.1 hz]; exact hsp
    refine call_of (over_c (ws_one (b10 H1)) (ws_one (b11 H1)) ws1 ws2 (by decide) (wd_range hb1 2)) ?_
    rintro e w4 ⟨rfl, k4⟩
    refine ⟨_, rfl, True.intro, ?_⟩
    replace H1 := H1.call k4
    have hr := overV_range (wd_range hb1 2) ws1 ws2
    have j2 : ∀ {w5 : World} {v : Int}, OF w0 w5 ((gB, 5, bv (pre ++ (x ++ post))) :: M) cs → (0 ≤ v ∧ v ≤ 65535) → v = echoS x s u whole → nat_carried.J2 (some ⟨gB, o, none⟩) n c v w5 R := fun {w5 v} H5 hv ev => by
      unfold nat_carried.J2; intros
      rw [nat_carried.j2_eq]
      refine call_of (putw_c H5 ho hn1 (i := 2) rfl (by omega) (by omega) hv) ?_
      rintro e w6 ⟨rfl, H6⟩
      rw [ev] at H6
      exact ⟨rfl, hR _ H6⟩
    refine ifB (fun hw => ?_) (fun hw => ?_)
    · refine ⟨⟨by decide, by decide⟩, _, (b10 H1).cell 4 rfl, ⟨by decide, by decide⟩, _, (b11 H1).cell 4 rfl, ?_⟩
      refine ifN (fun h2 => ?_) (fun h2 => ?_)
      · refine ifE (fun h3 => ?_) (fun h3 => ?_)
        · refine call_of (empty_c (by_part (H1.own.bk 0 rfl) ho hn1) (by omega) (k := 2) (by decide) rfl) ?_
          rintro e w5 ⟨rfl, k5⟩
          refine ⟨_, rfl, ?_⟩
          replace H1 := H1.call k5
          refine ifB (fun h4 => ?_) (fun h4 => ?_)
          · have k := j2 H1 (v := 65535) (by decide) (by unfold echoS; rw [if_pos ⟨hw, h2, h3, h4⟩])
            exact ⟨by with_reducible apply k⟩
          · have k := j2 H1 hr (by unfold echoS; rw [if_neg (fun h => by rw [h.2.2.2] at h4; cases h4)])
            exact ⟨by with_reducible apply k⟩
        · have k := j2 H1 hr (by unfold echoS; rw [if_neg (fun h => h3 h.2.2.1)])
          exact ⟨by with_reducible apply k⟩
      · have k := j2 H1 hr (by unfold echoS; rw [if_neg (fun h => h.2.1 h2)])
        exact ⟨by with_reducible apply k⟩
    · have k := j2 H1 hr (by unfold echoS; rw [if_neg (fun h => by rw [h.1] at hw; cases hw)])
      exact ⟨by with_reducible apply k⟩
  · rw [if_neg h1] at hR
    refine ⟨_, (b8 H).cell 3 rfl, ?_⟩
    refine call_of (putw_c H ho hn (i := 0) rfl (by omega) (by omega) hsp) ?_
    rintro e w1 ⟨rfl, H1⟩
    have hb1 := setw_bytes hb 0 hsp
    have hn1 : (setw b 0 u.sp).length = n := by rw [setw_len]; exact hn
    refine ⟨rfl, _, (b8 H1).cell 4 rfl, ?_⟩
    refine call_of (putw_c H1 ho hn1 (i := 2) rfl (by omega) (by omega) hdp) ?_
    rintro e w2 ⟨rfl, H2⟩
    have hb2 := setw_bytes hb1 2 hdp
    have hn2 : (setw (setw b 0 u.sp) 2 u.dp).length = n := by rw [setw_len]; exact hn1
    have hbl : b.length = n := hn
    generalize setw (setw b 0 u.sp) 2 u.dp = x at H2 hb2 hn2 hR
    refine ⟨rfl, ?_⟩
    refine ifE (fun h2 => ?_) (fun h2 => ?_)
    · rw [if_pos h2] at hR
      refine call_of (nword_c (by_part (H2.own.bk 0 rfl) ho hn2) hb2 (i := 6) rfl (by omega) (by omega)) ?_
      rintro e w3 ⟨rfl, k3⟩
      refine ⟨_, rfl, ?_⟩
      replace H2 := H2.call k3
      refine ifN (fun h3 => ?_) (fun h3 => ?_)
      · rw [if_pos h3] at hR
        refine draws (fun _ => True) True.intro fun w4 e4 => ?_
        replace H2 : OF w0 w4 ((gB, 5, bv (pre ++ (x ++ post))) :: M) cs := by rw [e4]; exact H2.call (Bel.refl w3).drew
        refine call_of (over_c (ws_all (b10 H2)) (ws_all (b11 H2)) (wsV_wrds hs) (wsV_wrds hu) (by decide) (wd_range hb2 6)) ?_
        rintro e w5 ⟨rfl, k5⟩
        refine ⟨_, rfl, True.intro, ?_⟩
        replace H2 := H2.call k5
        have hr := overV_range (wd_range hb2 6) (wsV_wrds hs) (wsV_wrds hu)
        have j3 : ∀ {w6 : World} {v : Int}, OF w0 w6 ((gB, 5, bv (pre ++ (x ++ post))) :: M) cs → (0 ≤ v ∧ v ≤ 65535) → v = udpS x s u → nat_carried.J3 (some ⟨gB, o, none⟩) n c v w6 R := fun {w6 v} H6 hv ev => by
          unfold nat_carried.J3; intros
          rw [nat_carried.j3_eq]
          refine call_of (putw_c H6 ho hn2 (i := 6) rfl (by omega) (by omega) hv) ?_
          rintro e w7 ⟨rfl, H7⟩
          rw [ev] at H7
          exact ⟨rfl, hR _ H7⟩
        refine ifE (fun h4 => ?_) (fun h4 => ?_)
        · have k := j3 H2 (v := 65535) (by decide) (by unfold udpS; rw [if_pos h4])
          exact ⟨by with_reducible apply k⟩
        · have k := j3 H2 hr (by unfold udpS; rw [if_neg h4])
          exact ⟨by with_reducible apply k⟩
      · rw [if_neg (fun h => h h3)] at hR
        exact hR _ H2
    · rw [if_neg h2] at hR
      refine ifD (fun h3 => ?_) (fun h3 => ?_)
      · rw [if_pos (by omega)] at hR
        refine draws (fun _ => True) True.intro fun w4 e4 => ?_
        replace H2 : OF w0 w4 ((gB, 5, bv (pre ++ (x ++ post))) :: M) cs := by rw [e4]; exact H2.call (Bel.refl w2).drew
        refine call_of (nword_c (by_part (H2.own.bk 0 rfl) ho hn2) hb2 (i := 16) rfl (by omega) (by omega)) ?_
        rintro e w5 ⟨rfl, k5⟩
        refine ⟨_, rfl, True.intro, ?_⟩
        replace H2 := H2.call k5
        refine call_of (over_c (ws_all (b10 H2)) (ws_all (b11 H2)) (wsV_wrds hs) (wsV_wrds hu) (by decide) (wd_range hb2 16)) ?_
        rintro e w6 ⟨rfl, k6⟩
        refine ⟨_, rfl, True.intro, ?_⟩
        replace H2 := H2.call k6
        have hr := overV_range (wd_range hb2 16) (wsV_wrds hs) (wsV_wrds hu)
        refine call_of (putw_c H2 ho hn2 (i := 16) rfl (by omega) (by omega) hr) ?_
        rintro e w7 ⟨rfl, H7⟩
        exact ⟨rfl, True.intro, hR _ H7⟩
      · rw [if_neg (by omega)] at hR
        exact hR _ H2
theorem carried_c (H : OF w0 w ((gB, 5, bv (pre ++ (b ++ post))) :: M) cs) (ho : pre.length = o) (hn : b.length = n) (hb : Bytes b) (hs : s.Fine) (hu : u.Fine) (h8 : 8 ≤ n) (hm : n ≤ 1000000) :
    Calls Tryd.prog 39 #[.slice (some ⟨gB, o, none⟩) n c, .int .u8 proto, .agg (tpv s).toArray, .agg (tpv u).toArray, .bool whole] w (RetC w0 gB (pre ++ (carV b proto s u whole ++ post)) M cs) := by
  refine nat_carried.run ?_
  unfold nat_carried.s
  refine of_newN (l := tpv s) H fun g1 _ H => ?_
  refine of_newN (l := tpv u) H fun g3 wd H => ?_
  refine draws (fun w' => Bk w' g1 32 (tpv s) ∧ Bk w' g3 32 (tpv u)) ⟨(H.call (Bel.refl wd).drew).own.bk 1 rfl, (H.call (Bel.refl wd).drew).own.bk 0 rfl⟩ fun w6 e6 => ?_
  replace H := H.call (Bel.refl wd).drew
  rw [← e6] at H
  refine ⟨_, _, _, _, _, ⟨rfl, fun w' h => h.1.at⟩, ?_⟩
  refine ⟨_, _, _, _, _, ⟨rfl, fun w' h => h.2.at⟩, ?_⟩
  refine ⟨?_, ?_, ?_⟩
  · refine call_of (words_c _ hs) ?_
    rintro e _ ⟨rfl, kc⟩
    replace H := H.call kc
    refine ⟨_, _, _, _, _, _, rfl, ⟨H.own.bk 1 rfl, H.own.bk 0 rfl⟩, ?_⟩
    refine ⟨?_, ?_, ?_⟩
    · refine call_of (words_c _ hu) ?_
      rintro e _ ⟨rfl, kc⟩
      replace H := H.call kc
      refine ⟨_, _, _, _, _, _, rfl, ⟨H.own.bk 1 rfl, H.own.bk 0 rfl⟩, ?_⟩
      refine ⟨?_, ?_⟩
      · refine of_newN (l := [.int .u16 0, .int .u16 0, .int .u16 0, .int .u16 0, .int .u16 0, .int .u16 0]) H fun g33 _ H => ?_
        refine ⟨⟨H.own.bk 2 rfl, H.own.bk 1 rfl⟩, ?_⟩
        refine of_newN (l := [.int .u16 0, .int .u16 0, .int .u16 0, .int .u16 0, .int .u16 0, .int .u16 0]) H fun g35 _ H => ?_
        refine ⟨⟨H.own.bk 3 rfl, H.own.bk 2 rfl⟩, ?_⟩
        refine of_put 1 H rfl rfl (Nat.le_refl 6) fun _ H => ?_
        refine ⟨⟨H.own.bk 3 rfl, H.own.bk 2 rfl⟩, ?_⟩
        refine of_put 0 H rfl rfl (Nat.le_refl 6) fun _ H => ?_
        refine ⟨⟨H.own.bk 3 rfl, H.own.bk 2 rfl⟩, ?_⟩
        replace H : OF w0 _ ((g35, 129, wvs (wsV u)) :: (g33, 129, wvs (wsV s)) :: (g3, 32, tpv u) :: (g1, 32, tpv s) :: (gB, 5, bv (pre ++ (b ++ post))) :: M) cs := H
        have kk := carried_j1 (c := c) (proto := proto) (whole := whole) (R := RetC w0 gB (pre ++ (carV b proto s u whole ++ post)) M cs) (H.perm perm4) ho hn hb hs hu h8 hm (fun w' h => ⟨rfl, drop4 h⟩) (g8 := g3) (g10 := g33) (g11 := g35) (by simp) (by simp) (by simp)
        exact ⟨by with_reducible apply kk⟩
      · refine of_newN (l := [.int .u16 0, .int .u16 0, .int .u16 0, .int .u16 0, .int .u16 0, .int .u16 0]) H fun g39 _ H => ?_
        refine ⟨⟨H.own.bk 2 rfl, H.own.bk 1 rfl⟩, ?_⟩
        refine of_newN (l := [.int .u16 0, .int .u16 0, .int .u16 0, .int .u16 0, .int .u16 0, .int .u16 0]) H fun g41 _ H => ?_
        refine ⟨⟨H.own.bk 3 rfl, H.own.bk 2 rfl⟩, ?_⟩
        refine of_put 0 H rfl rfl (Nat.le_refl 6) fun _ H => ?_
        refine ⟨⟨H.own.bk 3 rfl, H.own.bk 2 rfl⟩, ?_⟩
        refine of_put 1 H rfl rfl (Nat.le_refl 6) fun _ H => ?_
        refine ⟨⟨H.own.bk 3 rfl, H.own.bk 2 rfl⟩, ?_⟩
        replace H : OF w0 _ ((g41, 129, wvs (wsV s)) :: (g39, 129, wvs (wsV u)) :: (g3, 32, tpv u) :: (g1, 32, tpv s) :: (gB, 5, bv (pre ++ (b ++ post))) :: M) cs := H
        have kk := carried_j1 (c := c) (proto := proto) (whole := whole) (R := RetC w0 gB (pre ++ (carV b proto s u whole ++ post)) M cs) (H.perm perm4) ho hn hb hs hu h8 hm (fun w' h => ⟨rfl, drop4 h⟩) (g8 := g3) (g10 := g41) (g11 := g39) (by simp) (by simp) (by simp)
        exact ⟨by with_reducible apply kk⟩
    · refine of_newN (l := [.int .u16 0, .int .u16 0, .int .u16 0, .int .u16 0, .int .u16 0, .int .u16 0]) H fun g45 _ H => ?_
      refine ⟨⟨H.own.bk 2 rfl, H.own.bk 1 rfl⟩, ?_⟩
      refine ⟨?_, ?_⟩
      · refine call_of (words_c _ hu) ?_
        rintro e _ ⟨rfl, kc⟩
        replace H := H.call kc
        refine ⟨_, _, _, _, _, _, rfl, ⟨H.own.bk 2 rfl, H.own.bk 1 rfl⟩, ?_⟩
        refine of_newN (l := [.int .u16 0, .int .u16 0, .int .u16 0, .int .u16 0, .int .u16 0, .int .u16 0]) H fun g55 _ H => ?_
        refine ⟨⟨H.own.bk 3 rfl, H.own.bk 2 rfl⟩, ?_⟩
        refine of_put 1 H rfl rfl (Nat.le_refl 6) fun _ H => ?_
        refine ⟨⟨H.own.bk 3 rfl, H.own.bk 2 rfl⟩, ?_⟩
        refine of_put 0 H rfl rfl (Nat.le_refl 6) fun _ H => ?_
        refine ⟨⟨H.own.bk 3 rfl, H.own.bk 2 rfl⟩, ?_⟩
        replace H : OF w0 _ ((g55, 129, wvs (wsV u)) :: (g45, 129, wvs (wsV s)) :: (g3, 32, tpv u) :: (g1, 32, tpv s) :: (gB, 5, bv (pre ++ (b ++ post))) :: M) cs := H
        have kk := carried_j1 (c := c) (proto := proto) (whole := whole) (R := RetC w0 gB (pre ++ (carV b proto s u whole ++ post)) M cs) (H.perm perm4) ho hn hb hs hu h8 hm (fun w' h => ⟨rfl, drop4 h⟩) (g8 := g3) (g10 := g45) (g11 := g55) (by simp) (by simp) (by simp)
        exact ⟨by with_reducible apply kk⟩
      · refine of_newN (l := [.int .u16 0, .int .u16 0, .int .u16 0, .int .u16 0, .int .u16 0, .int .u16 0]) H fun g59 _ H => ?_
        refine ⟨⟨H.own.bk 3 rfl, H.own.bk 2 rfl⟩, ?_⟩
        refine call_of (words_c _ hu) ?_
        rintro e _ ⟨rfl, kc⟩
        replace H := H.call kc
        refine ⟨_, _, _, _, _, _, rfl, ⟨H.own.bk 3 rfl, H.own.bk 2 rfl⟩, ?_⟩
        refine of_put 1 H rfl rfl (Nat.le_refl 6) fun _ H => ?_
        refine ⟨⟨H.own.bk 3 rfl, H.own.bk 2 rfl⟩, ?_⟩
        refine of_put 0 H rfl rfl (Nat.le_refl 6) fun _ H => ?_
        refine ⟨⟨H.own.bk 3 rfl, H.own.bk 2 rfl⟩, ?_⟩
        replace H : OF w0 _ ((g59, 129, wvs (wsV u)) :: (g45, 129, wvs (wsV s)) :: (g3, 32, tpv u) :: (g1, 32, tpv s) :: (gB, 5, bv (pre ++ (b ++ post))) :: M) cs := H
        have kk := carried_j1 (c := c) (proto := proto) (whole := whole) (R := RetC w0 gB (pre ++ (carV b proto s u whole ++ post)) M cs) (H.perm perm4) ho hn hb hs hu h8 hm (fun w' h => ⟨rfl, drop4 h⟩) (g8 := g3) (g10 := g45) (g11 := g59) (by simp) (by simp) (by simp)
        exact ⟨by with_reducible apply kk⟩
    · refine of_newN (l := [.int .u16 0, .int .u16 0, .int .u16 0, .int .u16 0, .int .u16 0, .int .u16 0]) H fun g71 _ H => ?_
      refine ⟨⟨H.own.bk 2 rfl, H.own.bk 1 rfl⟩, ?_⟩
      refine ⟨?_, ?_⟩
      · refine call_of (words_c _ hu) ?_
        rintro e _ ⟨rfl, kc⟩
        replace H := H.call kc
        refine ⟨_, _, _, _, _, _, rfl, ⟨H.own.bk 2 rfl, H.own.bk 1 rfl⟩, ?_⟩
        refine of_newN (l := [.int .u16 0, .int .u16 0, .int .u16 0, .int .u16 0, .int .u16 0, .int .u16 0]) H fun g81 _ H => ?_
        refine ⟨⟨H.own.bk 3 rfl, H.own.bk 2 rfl⟩, ?_⟩
        refine of_put 0 H rfl rfl (Nat.le_refl 6) fun _ H => ?_
        refine ⟨⟨H.own.bk 3 rfl, H.own.bk 2 rfl⟩, ?_⟩
        refine of_put 1 H rfl rfl (Nat.le_refl 6) fun _ H => ?_
        refine ⟨⟨H.own.bk 3 rfl, H.own.bk 2 rfl⟩, ?_⟩
        replace H : OF w0 _ ((g81, 129, wvs (wsV s)) :: (g71, 129, wvs (wsV u)) :: (g3, 32, tpv u) :: (g1, 32, tpv s) :: (gB, 5, bv (pre ++ (b ++ post))) :: M) cs := H
        have kk := carried_j1 (c := c) (proto := proto) (whole := whole) (R := RetC w0 gB (pre ++ (carV b proto s u whole ++ post)) M cs) (H.perm perm4) ho hn hb hs hu h8 hm (fun w' h => ⟨rfl, drop4 h⟩) (g8 := g3) (g10 := g81) (g11 := g71) (by simp) (by simp) (by simp)
        exact ⟨by with_reducible apply kk⟩
      · refine of_newN (l := [.int .u16 0, .int .u16 0, .int .u16 0, .int .u16 0, .int .u16 0, .int .u16 0]) H fun g85 _ H => ?_
        refine ⟨⟨H.own.bk 3 rfl, H.own.bk 2 rfl⟩, ?_⟩
        refine call_of (words_c _ hu) ?_
        rintro e _ ⟨rfl, kc⟩
        replace H := H.call kc
        refine ⟨_, _, _, _, _, _, rfl, ⟨H.own.bk 3 rfl, H.own.bk 2 rfl⟩, ?_⟩
        refine of_put 0 H rfl rfl (Nat.le_refl 6) fun _ H => ?_
        refine ⟨⟨H.own.bk 3 rfl, H.own.bk 2 rfl⟩, ?_⟩
        refine of_put 1 H rfl rfl (Nat.le_refl 6) fun _ H => ?_
        refine ⟨⟨H.own.bk 3 rfl, H.own.bk 2 rfl⟩, ?_⟩
        replace H : OF w0 _ ((g85, 129, wvs (wsV s)) :: (g71, 129, wvs (wsV u)) :: (g3, 32, tpv u) :: (g1, 32, tpv s) :: (gB, 5, bv (pre ++ (b ++ post))) :: M) cs := H
        have kk := carried_j1 (c := c) (proto := proto) (whole := whole) (R := RetC w0 gB (pre ++ (carV b proto s u whole ++ post)) M cs) (H.perm perm4) ho hn hb hs hu h8 hm (fun w' h => ⟨rfl, drop4 h⟩) (g8 := g3) (g10 := g85) (g11 := g71) (by simp) (by simp) (by simp)
        exact ⟨by with_reducible apply kk⟩
  · refine of_newN (l := [.int .u16 0, .int .u16 0, .int .u16 0, .int .u16 0, .int .u16 0, .int .u16 0]) H fun g97 _ H => ?_
    refine ⟨⟨H.own.bk 2 rfl, H.own.bk 1 rfl⟩, ?_⟩
    refine ⟨?_, ?_⟩
    · refine call_of (words_c _ hs) ?_
      rintro e _ ⟨rfl, kc⟩
      replace H := H.call kc
      refine ⟨_, _, _, _, _, _, rfl, ⟨H.own.bk 2 rfl, H.own.bk 1 rfl⟩, ?_⟩
      refine ⟨?_, ?_⟩
      · refine call_of (words_c _ hu) ?_
        rintro e _ ⟨rfl, kc⟩
        replace H := H.call kc
        refine ⟨_, _, _, _, _, _, rfl, ⟨H.own.bk 2 rfl, H.own.bk 1 rfl⟩, ?_⟩
        refine of_newN (l := [.int .u16 0, .int .u16 0, .int .u16 0, .int .u16 0, .int .u16 0, .int .u16 0]) H fun g115 _ H => ?_
        refine ⟨⟨H.own.bk 3 rfl, H.own.bk 2 rfl⟩, ?_⟩
        refine of_put 1 H rfl rfl (Nat.le_refl 6) fun _ H => ?_
        refine ⟨⟨H.own.bk 3 rfl, H.own.bk 2 rfl⟩, ?_⟩
        refine of_put 0 H rfl rfl (Nat.le_refl 6) fun _ H => ?_
        refine ⟨⟨H.own.bk 3 rfl, H.own.bk 2 rfl⟩, ?_⟩
        replace H : OF w0 _ ((g115, 129, wvs (wsV u)) :: (g97, 129, wvs (wsV s)) :: (g3, 32, tpv u) :: (g1, 32, tpv s) :: (gB, 5, bv (pre ++ (b ++ post))) :: M) cs := H
        have kk := carried_j1 (c := c) (proto := proto) (whole := whole) (R := RetC w0 gB (pre ++ (carV b proto s u whole ++ post)) M cs) (H.perm perm4) ho hn hb hs hu h8 hm (fun w' h => ⟨rfl, drop4 h⟩) (g8 := g3) (g10 := g97) (g11 := g115) (by simp) (by simp) (by simp)
        exact ⟨by with_reducible apply kk⟩
      · refine of_newN (l := [.int .u16 0, .int .u16 0, .int .u16 0, .int .u16 0, .int .u16 0, .int .u16 0]) H fun g119 _ H => ?_
        refine ⟨⟨H.own.bk 3 rfl, H.own.bk 2 rfl⟩, ?_⟩
        refine call_of (words_c _ hu) ?_
        rintro e _ ⟨rfl, kc⟩
        replace H := H.call kc
        refine ⟨_, _, _, _, _, _, rfl, ⟨H.own.bk 3 rfl, H.own.bk 2 rfl⟩, ?_⟩
        refine of_put 1 H rfl rfl (Nat.le_refl 6) fun _ H => ?_
        refine ⟨⟨H.own.bk 3 rfl, H.own.bk 2 rfl⟩, ?_⟩
        refine of_put 0 H rfl rfl (Nat.le_refl 6) fun _ H => ?_
        refine ⟨⟨H.own.bk 3 rfl, H.own.bk 2 rfl⟩, ?_⟩
        replace H : OF w0 _ ((g119, 129, wvs (wsV u)) :: (g97, 129, wvs (wsV s)) :: (g3, 32, tpv u) :: (g1, 32, tpv s) :: (gB, 5, bv (pre ++ (b ++ post))) :: M) cs := H
        have kk := carried_j1 (c := c) (proto := proto) (whole := whole) (R := RetC w0 gB (pre ++ (carV b proto s u whole ++ post)) M cs) (H.perm perm4) ho hn hb hs hu h8 hm (fun w' h => ⟨rfl, drop4 h⟩) (g8 := g3) (g10 := g97) (g11 := g119) (by simp) (by simp) (by simp)
        exact ⟨by with_reducible apply kk⟩
    · refine of_newN (l := [.int .u16 0, .int .u16 0, .int .u16 0, .int .u16 0, .int .u16 0, .int .u16 0]) H fun g131 _ H => ?_
      refine ⟨⟨H.own.bk 3 rfl, H.own.bk 2 rfl⟩, ?_⟩
      refine call_of (words_c _ hs) ?_
      rintro e _ ⟨rfl, kc⟩
      replace H := H.call kc
      refine ⟨_, _, _, _, _, _, rfl, ⟨H.own.bk 3 rfl, H.own.bk 2 rfl⟩, ?_⟩
      refine call_of (words_c _ hu) ?_
      rintro e _ ⟨rfl, kc⟩
      replace H := H.call kc
      refine ⟨_, _, _, _, _, _, rfl, ⟨H.own.bk 3 rfl, H.own.bk 2 rfl⟩, ?_⟩
      refine of_put 1 H rfl rfl (Nat.le_refl 6) fun _ H => ?_
      refine ⟨⟨H.own.bk 3 rfl, H.own.bk 2 rfl⟩, ?_⟩
      refine of_put 0 H rfl rfl (Nat.le_refl 6) fun _ H => ?_
      refine ⟨⟨H.own.bk 3 rfl, H.own.bk 2 rfl⟩, ?_⟩
      replace H : OF w0 _ ((g131, 129, wvs (wsV u)) :: (g97, 129, wvs (wsV s)) :: (g3, 32, tpv u) :: (g1, 32, tpv s) :: (gB, 5, bv (pre ++ (b ++ post))) :: M) cs := H
      have kk := carried_j1 (c := c) (proto := proto) (whole := whole) (R := RetC w0 gB (pre ++ (carV b proto s u whole ++ post)) M cs) (H.perm perm4) ho hn hb hs hu h8 hm (fun w' h => ⟨rfl, drop4 h⟩) (g8 := g3) (g10 := g97) (g11 := g131) (by simp) (by simp) (by simp)
      exact ⟨by with_reducible apply kk⟩
  · refine of_newN (l := [.int .u16 0, .int .u16 0, .int .u16 0, .int .u16 0, .int .u16 0, .int .u16 0]) H fun g151 _ H => ?_
    refine ⟨⟨H.own.bk 2 rfl, H.own.bk 1 rfl⟩, ?_⟩
    refine ⟨?_, ?_⟩
    · refine call_of (words_c _ hs) ?_
      rintro e _ ⟨rfl, kc⟩
      replace H := H.call kc
      refine ⟨_, _, _, _, _, _, rfl, ⟨H.own.bk 2 rfl, H.own.bk 1 rfl⟩, ?_⟩
      refine ⟨?_, ?_⟩
      · refine call_of (words_c _ hu) ?_
        rintro e _ ⟨rfl, kc⟩
        replace H := H.call kc
        refine ⟨_, _, _, _, _, _, rfl, ⟨H.own.bk 2 rfl, H.own.bk 1 rfl⟩, ?_⟩
        refine of_newN (l := [.int .u16 0, .int .u16 0, .int .u16 0, .int .u16 0, .int .u16 0, .int .u16 0]) H fun g169 _ H => ?_
        refine ⟨⟨H.own.bk 3 rfl, H.own.bk 2 rfl⟩, ?_⟩
        refine of_put 0 H rfl rfl (Nat.le_refl 6) fun _ H => ?_
        refine ⟨⟨H.own.bk 3 rfl, H.own.bk 2 rfl⟩, ?_⟩
        refine of_put 1 H rfl rfl (Nat.le_refl 6) fun _ H => ?_
        refine ⟨⟨H.own.bk 3 rfl, H.own.bk 2 rfl⟩, ?_⟩
        replace H : OF w0 _ ((g169, 129, wvs (wsV s)) :: (g151, 129, wvs (wsV u)) :: (g3, 32, tpv u) :: (g1, 32, tpv s) :: (gB, 5, bv (pre ++ (b ++ post))) :: M) cs := H
        have kk := carried_j1 (c := c) (proto := proto) (whole := whole) (R := RetC w0 gB (pre ++ (carV b proto s u whole ++ post)) M cs) (H.perm perm4) ho hn hb hs hu h8 hm (fun w' h => ⟨rfl, drop4 h⟩) (g8 := g3) (g10 := g169) (g11 := g151) (by simp) (by simp) (by simp)
        exact ⟨by with_reducible apply kk⟩
      · refine of_newN (l := [.int .u16 0, .int .u16 0, .int .u16 0, .int .u16 0, .int .u16 0, .int .u16 0]) H fun g173 _ H => ?_
        refine ⟨⟨H.own.bk 3 rfl, H.own.bk 2 rfl⟩, ?_⟩
        refine call_of (words_c _ hu) ?_
        rintro e _ ⟨rfl, kc⟩
        replace H := H.call kc
        refine ⟨_, _, _, _, _, _, rfl, ⟨H.own.bk 3 rfl, H.own.bk 2 rfl⟩, ?_⟩
        refine of_put 0 H rfl rfl (Nat.le_refl 6) fun _ H => ?_
        refine ⟨⟨H.own.bk 3 rfl, H.own.bk 2 rfl⟩, ?_⟩
        refine of_put 1 H rfl rfl (Nat.le_refl 6) fun _ H => ?_
        refine ⟨⟨H.own.bk 3 rfl, H.own.bk 2 rfl⟩, ?_⟩
        replace H : OF w0 _ ((g173, 129, wvs (wsV s)) :: (g151, 129, wvs (wsV u)) :: (g3, 32, tpv u) :: (g1, 32, tpv s) :: (gB, 5, bv (pre ++ (b ++ post))) :: M) cs := H
        have kk := carried_j1 (c := c) (proto := proto) (whole := whole) (R := RetC w0 gB (pre ++ (carV b proto s u whole ++ post)) M cs) (H.perm perm4) ho hn hb hs hu h8 hm (fun w' h => ⟨rfl, drop4 h⟩) (g8 := g3) (g10 := g173) (g11 := g151) (by simp) (by simp) (by simp)
        exact ⟨by with_reducible apply kk⟩
    · refine of_newN (l := [.int .u16 0, .int .u16 0, .int .u16 0, .int .u16 0, .int .u16 0, .int .u16 0]) H fun g185 _ H => ?_
      refine ⟨⟨H.own.bk 3 rfl, H.own.bk 2 rfl⟩, ?_⟩
      refine call_of (words_c _ hs) ?_
      rintro e _ ⟨rfl, kc⟩
      replace H := H.call kc
      refine ⟨_, _, _, _, _, _, rfl, ⟨H.own.bk 3 rfl, H.own.bk 2 rfl⟩, ?_⟩
      refine call_of (words_c _ hu) ?_
      rintro e _ ⟨rfl, kc⟩
      replace H := H.call kc
      refine ⟨_, _, _, _, _, _, rfl, ⟨H.own.bk 3 rfl, H.own.bk 2 rfl⟩, ?_⟩
      refine of_put 0 H rfl rfl (Nat.le_refl 6) fun _ H => ?_
      refine ⟨⟨H.own.bk 3 rfl, H.own.bk 2 rfl⟩, ?_⟩
      refine of_put 1 H rfl rfl (Nat.le_refl 6) fun _ H => ?_
      refine ⟨⟨H.own.bk 3 rfl, H.own.bk 2 rfl⟩, ?_⟩
      replace H : OF w0 _ ((g185, 129, wvs (wsV s)) :: (g151, 129, wvs (wsV u)) :: (g3, 32, tpv u) :: (g1, 32, tpv s) :: (gB, 5, bv (pre ++ (b ++ post))) :: M) cs := H
      have kk := carried_j1 (c := c) (proto := proto) (whole := whole) (R := RetC w0 gB (pre ++ (carV b proto s u whole ++ post)) M cs) (H.perm perm4) ho hn hb hs hu h8 hm (fun w' h => ⟨rfl, drop4 h⟩) (g8 := g3) (g10 := g185) (g11 := g151) (by simp) (by simp) (by simp)
      exact ⟨by with_reducible apply kk⟩
end
end Go.Proofs.YtphbdmafchjjeaaDoorS
