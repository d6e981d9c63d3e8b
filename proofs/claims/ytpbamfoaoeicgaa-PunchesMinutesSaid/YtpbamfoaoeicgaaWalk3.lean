/- The closure where a mark is lost, or a punch is over. -/
import Derived.Test.YtpbamfoaoeicgaaWalk2
set_option linter.unusedVariables false
set_option linter.unusedSimpArgs false
namespace Go.Proofs.Ytpbamfoaoeicgaa.PAll
open Go Go.RowKit Go.Proofs.YtpbamfoaoeicgaaW.PrintWords Go.Proofs.YtpbamfoaoeicgaaW.PrintLast Go.Proofs.YtpbamfoaoeicgaaW.PrintMore

theorem cells_lost {w1 W : World} {ms : List S68} {ps : List S45} {al A1 : Option Addr} {cl c1 L P T O B : Nat} {v : Value} {out : List S57} (h : Lies w1 ms ps al cl A1 c1 L P T O B) (i j : Nat) (hi : i < ms.length) (hj : j ≤ ps.length) (hc : Clo w1 L P T O W v out) :
    W.cell? ⟨L, 0, none⟩ = some (.slice al ms.length cl) ∧ W.cell? ⟨P, 0, none⟩ = some (.slice A1 ps.length c1) ∧ W.cell? ⟨T, 0, none⟩ = some (.pointer (some ⟨B, 0, none⟩)) ∧
    W.cell? ⟨B, (i + 1) * 61 + j, none⟩ = some (.int .i64 (tab ms ps (i + 1) j)) ∧
    W.cell? ⟨B, i * 61 + j, none⟩ = some (.int .i64 (tab ms ps i j)) := by
  have ft := fun i' j' hi' hj' => (hc.below.cell (p := ⟨B, i' * 61 + j', none⟩) h.hB).trans (h.fill.2.2 i' j' hi' hj' trivial)
  exact ⟨(hc.below.cell (p := ⟨L, 0, none⟩) h.hL).trans h.l, (hc.below.cell (p := ⟨P, 0, none⟩) h.hP).trans h.p, (hc.below.cell (p := ⟨T, 0, none⟩) h.hT).trans h.t, ft _ _ (by omega) (by omega), ft _ _ (by omega) (by omega)⟩
theorem Clo.drewN {w1 W : World} {L P T O : Nat} {v : Value} {out : List S57} (h : Clo w1 L P T O W v out) (n : Nat) : Clo w1 L P T O (W.drewN n) v out := ⟨pw_below_drewN h.below n, h.lt, h.o, h.k, h.row⟩

set_option maxRecDepth 100000 in
set_option maxHeartbeats 4000000 in
theorem walk_lost1 (w1 : World) (ms : List S68) (ps : List S45) (al : Option Addr) (cl : Nat) (A1 : Option Addr) (c1 : Nat) (L P T O B : Nat) (h : Lies w1 ms ps al cl A1 c1 L P T O B)
    (W : World) (v : Value) (out : List S57) (hc : Clo w1 L P T O W v out) (i j : Nat) (hlen : out.length ≤ i + j)
    (hi : i < ms.length) (hj : j < ps.length) (heq : ¬ tab ms ps i j = cst (rd_T68 ms i) (rd_T45 ps j) + tab ms ps (i + 1) (j + 1)) (hlost : tab ms ps i j = 120 + tab ms ps (i + 1) j) (G : List S57)
    (ih : Hid (∀ W v, Clo w1 L P T O W v (out ++ [⟨(rd_T68 ms i).f0, (rd_T68 ms i).f1, -1⟩]) → Calls Try.prog 27 #[.int .i64 (((i + 1 : Nat) : Int) : Int), .int .i64 (j : Int), .pointer (some ⟨L, 0, none⟩), .pointer (some ⟨P, 0, none⟩), .pointer (some ⟨T, 0, none⟩), .pointer (some ⟨O, 0, none⟩), .pointer (some ⟨O + 1, 0, none⟩)] W
      fun e W' => e = .returned (.tuple #[]) ∧ ∃ v', Clo w1 L P T O W' v' G)) :
    Calls Try.prog 27 #[.int .i64 (i : Int), .int .i64 (j : Int), .pointer (some ⟨L, 0, none⟩), .pointer (some ⟨P, 0, none⟩), .pointer (some ⟨T, 0, none⟩), .pointer (some ⟨O, 0, none⟩), .pointer (some ⟨O + 1, 0, none⟩)] W
      fun e W' => e = .returned (.tuple #[]) ∧ ∃ v', Clo w1 L P T O W' v' G := by
  obtain ⟨ad, rfl, _⟩ := at_T68 (h.rl _ hc.below) (i : Int) (by omega) (by omega)
  obtain ⟨ae, rfl, _⟩ := at_T45 (h.rp _ hc.below) (j : Int) (by omega) (by omega)
  have cl1 := (hc.below.cell (p := ⟨L, 0, none⟩) h.hL).trans h.l
  have HS := Lib.hid (fun W hc => cells_of (W := W) (v := v) (out := out) h i j hi hj hc)
  have HA := Lib.hid (fun W v hc hv => cells_v (W := W) (v := v) h i hi hc hv)
  have HCO := Lib.hid (cost_f (rd_T68 ms (i : Int)) (rd_T45 ps (j : Int)) (near1 h.near hi) (near2 h.near hj))
  have bt1 := tab_bd ms ps (i + 1) (j + 1) h.hm h.hn
  have bt2 := tab_bd ms ps (i + 1) j h.hm h.hn
  have bc := cst_bd (rd_T68 ms (i : Int)) (rd_T45 ps (j : Int)) (near1 h.near hi) (near2 h.near hj)
  have HL := Lib.hid h
  have HC := Lib.hid hc
  clear h hc
  obtain ⟨x, hx⟩ : ∃ x, rd_T68 ms (i : Int) = x := ⟨_, rfl⟩
  obtain ⟨y, hy⟩ : ∃ y, rd_T45 ps (j : Int) = y := ⟨_, rfl⟩
  rw [hx, hy] at HCO HS bc heq
  rw [hx] at HA ih
  clear hx hy
  have s1 : IntKind.i64.wrap (cst x y + tab ms ps (i + 1) (j + 1)) = cst x y + tab ms ps (i + 1) (j + 1) := by rw [IntKind.wrap_i64]; omega
  have s2 : IntKind.i64.wrap (120 + tab ms ps (i + 1) j) = 120 + tab ms ps (i + 1) j := by rw [IntKind.wrap_i64]; omega
  clear bt1 bt2 bc
  have hm48 := HL.out.hm
  have hn60 := HL.out.hn
  have i1 : (i : Int) < (ms.length : Int) := by omega
  have i2 : (i : Int) + 1 < 49 := by omega
  have i3 : (i : Int) < 49 := by omega
  have j1 : (j : Int) < (ps.length : Int) := by omega
  have j2 : (j : Int) + 1 < 61 := by omega
  have j3 : (j : Int) < 61 := by omega
  have i4 : (0 : Int) ≤ (i : Int) := by omega
  have i5 : (0 : Int) ≤ (i : Int) + 1 := by omega
  have j4 : (0 : Int) ≤ (j : Int) := by omega
  have j5 : (0 : Int) ≤ (j : Int) + 1 := by omega
  have i6 : IntKind.i64.wrap ((i : Int) + 1) = (i : Int) + 1 := by rw [IntKind.wrap_i64]; omega
  have j6 : IntKind.i64.wrap ((j : Int) + 1) = (j : Int) + 1 := by rw [IntKind.wrap_i64]; omega
  have i7 : ((i : Int) + 1).toNat = i + 1 := by omega
  have j7 : ((j : Int) + 1).toNat = j + 1 := by omega
  have EI := Lib.hid (show ((i + 1 : Nat) : Int) = (i : Int) + 1 by omega)
  have EJ := Lib.hid (show ((j + 1 : Nat) : Int) = (j : Int) + 1 by omega)
  have e1 : ((i : Int) == (ms.length : Int)) = false := by simp; omega
  have e3 : decide ((i : Int) < (ms.length : Int)) = true := by simp; omega
  have e4 : decide ((j : Int) < (ps.length : Int)) = true := by simp; omega
  have heq2 : (tab ms ps i j == cst x y + tab ms ps (i + 1) (j + 1)) = false := by simpa using heq
  clear heq
  have heq3 : (tab ms ps i j == 120 + tab ms ps (i + 1) j) = true := by simpa using hlost
  clear hlost
  go_enter Try.func27, Try.ntmps27
  go_wp2_with (fail)
  clear e1 cl1
  go_region_held3 (fun w' => (w'.cell? ⟨L, 0, none⟩ = some (.slice (some ad) ms.length cl) ∧ w'.cell? ⟨P, 0, none⟩ = some (.slice (some ae) ps.length c1) ∧ w'.cell? ⟨T, 0, none⟩ = some (.pointer (some ⟨B, 0, none⟩)) ∧
      w'.cell? (ad.add (i * 3)) = some (.int .i64 x.f0) ∧ w'.cell? ⟨(ad.add (i * 3)).block, (ad.add (i * 3)).off + 1, none⟩ = some (.bool x.f1) ∧ w'.cell? ⟨(ad.add (i * 3)).block, (ad.add (i * 3)).off + 2, none⟩ = some (.int .i64 x.f2) ∧
      w'.cell? (ae.add (j * 2)) = some (.int .i64 y.f0) ∧ w'.cell? ⟨(ae.add (j * 2)).block, (ae.add (j * 2)).off + 1, none⟩ = some (.bool y.f1) ∧
      w'.cell? ⟨B, (i + 1) * 61 + (j + 1), none⟩ = some (.int .i64 (tab ms ps (i + 1) (j + 1))) ∧
      w'.cell? ⟨B, (i + 1) * 61 + j, none⟩ = some (.int .i64 (tab ms ps (i + 1) j)) ∧
      w'.cell? ⟨B, i * 61 + j, none⟩ = some (.int .i64 (tab ms ps i j)) ∧
      w'.cell? ⟨O, 0, none⟩ = some v ∧ w'.frozen? ⟨O, 0, none⟩ = false) ∧ Clo w1 L P T O w' v out)
    (first
      | exact ⟨HS.out _ (Clo.drew HC.out), Clo.drew HC.out⟩
      | assumption
      | exact ⟨HS.out _ (Clo.call (held_clo (by assumption)) hb2), Clo.call (held_clo (by assumption)) hb2⟩)
    (first
      | (go_at_call 28; refine (punches_cost.calls _ _ _ _ _ _ _ HCO.out).mono ?_; rintro _ x4 ⟨rfl, hb2⟩))
  have HC2 := Lib.hid (Clo.call (Clo.drew HC.out) hb2)
  clear hb2
  obtain ⟨cL, cP, cT, -, -, -, -, -, -, cB1, cB0, -, -⟩ := HS.out _ HC2.out
  go_wp2_with (fail)
  go_quiet (fail)
  go_wp2_with (fail)
  obtain ⟨i0, hi0, hz0, hz1, hz2⟩ := info_parts info57
  have hu24 := Try.underlying24
  clear cL cP cT cB0 cB1 heq3 s2 j6
  generalize hx5 : World.drewN _ _ = x5
  have HCc : Hid (Clo w1 L P T O x5 v out) := Lib.hid (by rw [← hx5]; first | exact Clo.drewN HC2.out _ | exact Clo.drewN (Clo.drewN HC2.out _) _)
  clear hx5
  go_wp2_with (fail)
  refine start_ (n := 15) (ds := [14]) (S := (fun w' => (w'.cell? ⟨L, 0, none⟩ = some (.slice (some ad) ms.length cl) ∧ w'.cell? (ad.add (i * 3)) = some (.int .i64 x.f0) ∧ w'.cell? ⟨(ad.add (i * 3)).block, (ad.add (i * 3)).off + 1, none⟩ = some (.bool x.f1) ∧ w'.cell? ⟨O, 0, none⟩ = some v ∧ w'.frozen? ⟨O, 0, none⟩ = false) ∧ Base w1 L P T O w')) #[false, false, false, false, false, false, false, false, false, false, false, false, false, false, false] rfl rfl rfl (HA.out _ v (Base.drew (Clo.base HCc.out)) HCc.out.drew.o.cell) (fun hHeld => ?_)
  refine take_ (i := 0) (N := some 115) (v := ?_) (a' := ?_) #[true, false, false, false, false, false, false, false, false, false, false, false, false, false, false] rfl rfl (by kernel_rfl) (fun _ _ _ h => h) (Or.inl ⟨by rfl, ?_⟩) hHeld ?_ ?_
  rotate_left
  · rintro w' ⟨⟨s0, s1, s2, s3, s4⟩, s5⟩
    go_simp
    with_reducible rfl
  rotate_left
  · simp only [Act.put, List.setIfInBounds_toArray, List.set_cons_zero, List.set_cons_succ, i64_w, i32_w]
    rfl
  refine take_ (i := 1) (N := some 116) (v := ?_) (a' := ?_) #[true, true, false, false, false, false, false, false, false, false, false, false, false, false, false] rfl rfl (by kernel_rfl) (fun _ _ _ h => h) (Or.inl ⟨by rfl, ?_⟩) hHeld ?_ ?_
  rotate_left
  · rintro w' ⟨⟨s0, s1, s2, s3, s4⟩, s5⟩
    go_simp
    with_reducible rfl
  rotate_left
  · simp only [Act.put, List.setIfInBounds_toArray, List.set_cons_zero, List.set_cons_succ, i64_w, i32_w]
    rfl
  refine pure_ (i := 2) (N := some 117) (v := ?_) (a' := ?_) #[true, true, true, false, false, false, false, false, false, false, false, false, false, false, false] rfl rfl (by kernel_rfl) (fun _ _ _ h => h) (Or.inl ⟨by rfl, ?_⟩) ?_ ?_
  rotate_left
  · intro w'
    go_simp
    with_reducible rfl
  rotate_left
  · simp only [Act.put, List.setIfInBounds_toArray, List.set_cons_zero, List.set_cons_succ, i64_w, i32_w]
    rfl
  refine pure_ (i := 3) (N := some 118) (v := ?_) (a' := ?_) #[true, true, true, true, false, false, false, false, false, false, false, false, false, false, false] rfl rfl (by kernel_rfl) (fun _ _ _ h => h) (Or.inl ⟨by rfl, ?_⟩) ?_ ?_
  rotate_left
  · intro w'
    go_simp
    with_reducible rfl
  rotate_left
  · simp only [Act.put, List.setIfInBounds_toArray, List.set_cons_zero, List.set_cons_succ, i64_w, i32_w]
    rfl
  refine pure_ (i := 4) (N := some 119) (v := ?_) (a' := ?_) #[true, true, true, true, true, false, false, false, false, false, false, false, false, false, false] rfl rfl (by kernel_rfl) (fun _ _ _ h => h) (Or.inl ⟨by rfl, ?_⟩) ?_ ?_
  rotate_left
  · intro w'
    go_simp
    with_reducible rfl
  rotate_left
  · simp only [Act.put, List.setIfInBounds_toArray, List.set_cons_zero, List.set_cons_succ, i64_w, i32_w]
    rfl
  refine take_ (i := 5) (N := some 120) (v := ?_) (a' := ?_) #[true, true, true, true, true, true, false, false, false, false, false, false, false, false, false] rfl rfl (by kernel_rfl) (fun _ _ _ h => h) (Or.inl ⟨by rfl, ?_⟩) hHeld ?_ ?_
  rotate_left
  · rintro w' ⟨⟨s0, s1, s2, s3, s4⟩, s5⟩
    go_simp
    with_reducible rfl
  rotate_left
  · simp only [Act.put, List.setIfInBounds_toArray, List.set_cons_zero, List.set_cons_succ, i64_w, i32_w]
    rfl
  refine take_ (i := 6) (N := some 121) (v := ?_) (a' := ?_) #[true, true, true, true, true, true, true, false, false, false, false, false, false, false, false] rfl rfl (by kernel_rfl) (fun _ _ _ h => h) (Or.inl ⟨by rfl, ?_⟩) hHeld ?_ ?_
  rotate_left
  · rintro w' ⟨⟨s0, s1, s2, s3, s4⟩, s5⟩
    go_simp
    with_reducible rfl
  rotate_left
  · simp only [Act.put, List.setIfInBounds_toArray, List.set_cons_zero, List.set_cons_succ, i64_w, i32_w]
    rfl
  refine pure_ (i := 7) (N := some 122) (v := ?_) (a' := ?_) #[true, true, true, true, true, true, true, true, false, false, false, false, false, false, false] rfl rfl (by kernel_rfl) (fun _ _ _ h => h) (Or.inl ⟨by rfl, ?_⟩) ?_ ?_
  rotate_left
  · intro w'
    go_simp
    with_reducible rfl
  rotate_left
  · simp only [Act.put, List.setIfInBounds_toArray, List.set_cons_zero, List.set_cons_succ, i64_w, i32_w]
    rfl
  refine pure_ (i := 8) (N := some 123) (v := ?_) (a' := ?_) #[true, true, true, true, true, true, true, true, true, false, false, false, false, false, false] rfl rfl (by kernel_rfl) (fun _ _ _ h => h) (Or.inl ⟨by rfl, ?_⟩) ?_ ?_
  rotate_left
  · intro w'
    go_simp
    with_reducible rfl
  rotate_left
  · simp only [Act.put, List.setIfInBounds_toArray, List.set_cons_zero, List.set_cons_succ, i64_w, i32_w]
    rfl
  refine pure_ (i := 9) (N := some 124) (v := ?_) (a' := ?_) #[true, true, true, true, true, true, true, true, true, true, false, false, false, false, false] rfl rfl (by kernel_rfl) (fun _ _ _ h => h) (Or.inl ⟨by rfl, ?_⟩) ?_ ?_
  rotate_left
  · intro w'
    go_simp
    with_reducible rfl
  rotate_left
  · simp only [Act.put, List.setIfInBounds_toArray, List.set_cons_zero, List.set_cons_succ, i64_w, i32_w]
    rfl
  refine take_ (i := 10) (N := some 125) (v := ?_) (a' := ?_) #[true, true, true, true, true, true, true, true, true, true, true, false, false, false, false] rfl rfl (by kernel_rfl) (fun _ _ _ h => h) (Or.inl ⟨by rfl, ?_⟩) hHeld ?_ ?_
  rotate_left
  · rintro w' ⟨⟨s0, s1, s2, s3, s4⟩, s5⟩
    go_simp
    with_reducible rfl
  rotate_left
  · simp only [Act.put, List.setIfInBounds_toArray, List.set_cons_zero, List.set_cons_succ, i64_w, i32_w]
    rfl
  refine pure_ (i := 11) (N := some 126) (v := ?_) (a' := ?_) #[true, true, true, true, true, true, true, true, true, true, true, true, false, false, false] rfl rfl (by kernel_rfl) (fun _ _ _ h => h) (Or.inl ⟨by rfl, ?_⟩) ?_ ?_
  rotate_left
  · intro w'
    go_simp
    with_reducible rfl
  rotate_left
  · simp only [Act.put, List.setIfInBounds_toArray, List.set_cons_zero, List.set_cons_succ, i64_w, i32_w]
    rfl
  refine one_ (i := 12) (N := some 127) #[true, true, true, true, true, true, true, true, true, true, true, true, true, false, false] rfl rfl (by kernel_rfl) (by decide) (fun K hK => ?_)
  refine value_ (w1 := ?_) (v := ?_) (by rfl) rfl ?_ ?_
  rotate_left 2
  · go_simp
    constructor
    · rfl
    · rfl
  refine hK.out _ _ (HA.out _ v (Base.alloc (Base.drew (Clo.base HCc.out)) _) (Boxed.alloc (W := x5.drew) HCc.out.o _).cell) (fun hHeld => ?_)
  clear hK K
  refine norm_ (a' := ?_) ?_ ?_
  rotate_left
  · show Act.put _ (some 127) _ = _
    simp only [Act.put, List.setIfInBounds_toArray, List.set_cons_zero, List.set_cons_succ, i64_w, i32_w]
    rfl
  refine one_ (i := 13) (N := some 128) #[true, true, true, true, true, true, true, true, true, true, true, true, true, true, false] rfl rfl (by kernel_rfl) (by decide) (fun K hK => ?_)
  refine step_append_lies _ (by rfl) _ _ _ (by rfl) O 57 i0 _ 3 24 Try.underlying24 hi0 hz0 hz1 hz2 rfl (by omega) v out.length (flat57 out) (by rfl) (HCc.out.row.alloc _)
        ⟨x5.heap.size, 0, none⟩ 1 1 [.int .i64 x.f0, .bool x.f1, .int .i64 (-1)] (by rfl) (by rfl) (World.news_of_block (cs := #[.int .i64 x.f0, .bool x.f1, .int .i64 (-1)]) (t := 57) (fr := (0, 0)) (heap_alloc_new _ _)) (by simp [Value.oneCell'])
        (by omega) (by have := HL.out.hm; have := HL.out.hn; simp only [maxLen]; omega) (by have := HL.out.hm; have := HL.out.hn; omega) (by have := HCc.out.lt; simp; omega) _ rfl ?_
  intro gg cap w2 hown hgrow hat hlt
  clear hat hlt
  refine hK.out _ _ (HA.out _ v (Base.grown hHeld.2 hgrow HCc.out.row HCc.out.o HCc.out.k) (after_append ⟨x.f0, x.f1, -1⟩ HCc.out 1 hown hgrow).1) (fun hHeld => ?_)
  clear hK K
  refine norm_ (a' := ?_) ?_ ?_
  rotate_left
  · show Act.put _ (some 128) _ = _
    simp only [Act.put, List.setIfInBounds_toArray, List.set_cons_zero, List.set_cons_succ, i64_w, i32_w]
    rfl
  refine last_ (i := 14) (N := none) #[true, true, true, true, true, true, true, true, true, true, true, true, true, true, true] rfl rfl (by kernel_rfl) (by decide) (fun K hK => ?_)
  refine skip_ (w1 := ?_) (by rfl) rfl ?_ ?_
  rotate_left
  · go_simp
    rfl
  refine hK.out _ _ ?_
  refine done_ (by kernel_rfl) ?_
  all_goals
    obtain ⟨co2, fo2, ck2, hc3⟩ := after_append ⟨x.f0, x.f1, -1⟩ HCc.out 1 hown hgrow
    have HC3 := Lib.hid hc3
    clear hc3 hown hgrow
    go_wp2_with (fail)
    have hh := ih.out _ _ HC3.out
    rw [EI.out] at hh
    refine hh.mono ?_
    rintro e w3 ⟨rfl, h3⟩
    go_wp2
    first | go_end0 | ((try simp only [Exit.inBlock, Exit.then]); refine bodyPost_ret (results_none rfl _ _ _) rfl ?_)
    exact ⟨rfl, h3⟩

set_option maxRecDepth 100000 in
set_option maxHeartbeats 4000000 in
theorem walk_lost2 (w1 : World) (ms : List S68) (ps : List S45) (al : Option Addr) (cl : Nat) (A1 : Option Addr) (c1 : Nat) (L P T O B : Nat) (h : Lies w1 ms ps al cl A1 c1 L P T O B)
    (W : World) (v : Value) (out : List S57) (hc : Clo w1 L P T O W v out) (i j : Nat) (hlen : out.length ≤ i + j)
    (hi : i < ms.length) (hj : ps.length ≤ j) (hj2 : j ≤ ps.length) (hlost : tab ms ps i j = 120 + tab ms ps (i + 1) j) (G : List S57)
    (ih : Hid (∀ W v, Clo w1 L P T O W v (out ++ [⟨(rd_T68 ms i).f0, (rd_T68 ms i).f1, -1⟩]) → Calls Try.prog 27 #[.int .i64 (((i + 1 : Nat) : Int) : Int), .int .i64 (j : Int), .pointer (some ⟨L, 0, none⟩), .pointer (some ⟨P, 0, none⟩), .pointer (some ⟨T, 0, none⟩), .pointer (some ⟨O, 0, none⟩), .pointer (some ⟨O + 1, 0, none⟩)] W
      fun e W' => e = .returned (.tuple #[]) ∧ ∃ v', Clo w1 L P T O W' v' G)) :
    Calls Try.prog 27 #[.int .i64 (i : Int), .int .i64 (j : Int), .pointer (some ⟨L, 0, none⟩), .pointer (some ⟨P, 0, none⟩), .pointer (some ⟨T, 0, none⟩), .pointer (some ⟨O, 0, none⟩), .pointer (some ⟨O + 1, 0, none⟩)] W
      fun e W' => e = .returned (.tuple #[]) ∧ ∃ v', Clo w1 L P T O W' v' G := by
  obtain ⟨ad, rfl, hxx⟩ := at_T68 (h.rl _ hc.below) (i : Int) (by omega) (by omega)
  clear hxx
  have HA := Lib.hid (fun W v hc hv => cells_v (W := W) (v := v) h i hi hc hv)
  obtain ⟨cL, cP, cT, cB1, cB0⟩ := cells_lost h i j hi (by omega) hc
  have bt2 := tab_bd ms ps (i + 1) j h.hm h.hn
  have HL := Lib.hid h
  have HC := Lib.hid hc
  clear h hc
  obtain ⟨x, hx⟩ : ∃ x, rd_T68 ms (i : Int) = x := ⟨_, rfl⟩
  rw [hx] at HA ih
  clear hx
  have s2 : IntKind.i64.wrap (120 + tab ms ps (i + 1) j) = 120 + tab ms ps (i + 1) j := by rw [IntKind.wrap_i64]; omega
  clear bt2
  have hm48 := HL.out.hm
  have hn60 := HL.out.hn
  have i1 : (i : Int) < (ms.length : Int) := by omega
  have i2 : (i : Int) + 1 < 49 := by omega
  have i3 : (i : Int) < 49 := by omega
  have j3 : (j : Int) < 61 := by omega
  have i4 : (0 : Int) ≤ (i : Int) := by omega
  have i5 : (0 : Int) ≤ (i : Int) + 1 := by omega
  have j4 : (0 : Int) ≤ (j : Int) := by omega
  have j5 : (0 : Int) ≤ (j : Int) + 1 := by omega
  have i6 : IntKind.i64.wrap ((i : Int) + 1) = (i : Int) + 1 := by rw [IntKind.wrap_i64]; omega
  have j6 : IntKind.i64.wrap ((j : Int) + 1) = (j : Int) + 1 := by rw [IntKind.wrap_i64]; omega
  have i7 : ((i : Int) + 1).toNat = i + 1 := by omega
  have j7 : ((j : Int) + 1).toNat = j + 1 := by omega
  have EI := Lib.hid (show ((i + 1 : Nat) : Int) = (i : Int) + 1 by omega)
  have EJ := Lib.hid (show ((j + 1 : Nat) : Int) = (j : Int) + 1 by omega)
  have e1 : ((i : Int) == (ms.length : Int)) = false := by simp; omega
  have e3 : decide ((i : Int) < (ms.length : Int)) = true := by simp; omega
  have e4 : decide ((j : Int) < (ps.length : Int)) = false := by simp; omega
  have e5 : decide (j < ps.length) = false := by simp; omega
  have heq3 : (tab ms ps i j == 120 + tab ms ps (i + 1) j) = true := by simpa using hlost
  clear hlost
  go_enter Try.func27, Try.ntmps27
  go_wp2_with (fail)
  clear e1
  go_quiet (fail)
  go_wp2_with (fail)
  have HC2 := HC
  go_quiet (fail)
  go_wp2_with (fail)
  obtain ⟨i0, hi0, hz0, hz1, hz2⟩ := info_parts info57
  have hu24 := Try.underlying24
  clear cL cP cT cB0 cB1 heq3 s2 j6
  generalize hx5 : World.drewN _ _ = x5
  have HCc : Hid (Clo w1 L P T O x5 v out) := Lib.hid (by rw [← hx5]; first | exact Clo.drewN HC2.out _ | exact Clo.drewN (Clo.drewN HC2.out _) _)
  clear hx5
  go_wp2_with (fail)
  refine start_ (n := 15) (ds := [14]) (S := (fun w' => (w'.cell? ⟨L, 0, none⟩ = some (.slice (some ad) ms.length cl) ∧ w'.cell? (ad.add (i * 3)) = some (.int .i64 x.f0) ∧ w'.cell? ⟨(ad.add (i * 3)).block, (ad.add (i * 3)).off + 1, none⟩ = some (.bool x.f1) ∧ w'.cell? ⟨O, 0, none⟩ = some v ∧ w'.frozen? ⟨O, 0, none⟩ = false) ∧ Base w1 L P T O w')) #[false, false, false, false, false, false, false, false, false, false, false, false, false, false, false] rfl rfl rfl (HA.out _ v (Base.drew (Clo.base HCc.out)) HCc.out.drew.o.cell) (fun hHeld => ?_)
  refine take_ (i := 0) (N := some 115) (v := ?_) (a' := ?_) #[true, false, false, false, false, false, false, false, false, false, false, false, false, false, false] rfl rfl (by kernel_rfl) (fun _ _ _ h => h) (Or.inl ⟨by rfl, ?_⟩) hHeld ?_ ?_
  rotate_left
  · rintro w' ⟨⟨s0, s1, s2, s3, s4⟩, s5⟩
    go_simp
    with_reducible rfl
  rotate_left
  · simp only [Act.put, List.setIfInBounds_toArray, List.set_cons_zero, List.set_cons_succ, i64_w, i32_w]
    rfl
  refine take_ (i := 1) (N := some 116) (v := ?_) (a' := ?_) #[true, true, false, false, false, false, false, false, false, false, false, false, false, false, false] rfl rfl (by kernel_rfl) (fun _ _ _ h => h) (Or.inl ⟨by rfl, ?_⟩) hHeld ?_ ?_
  rotate_left
  · rintro w' ⟨⟨s0, s1, s2, s3, s4⟩, s5⟩
    go_simp
    with_reducible rfl
  rotate_left
  · simp only [Act.put, List.setIfInBounds_toArray, List.set_cons_zero, List.set_cons_succ, i64_w, i32_w]
    rfl
  refine pure_ (i := 2) (N := some 117) (v := ?_) (a' := ?_) #[true, true, true, false, false, false, false, false, false, false, false, false, false, false, false] rfl rfl (by kernel_rfl) (fun _ _ _ h => h) (Or.inl ⟨by rfl, ?_⟩) ?_ ?_
  rotate_left
  · intro w'
    go_simp
    with_reducible rfl
  rotate_left
  · simp only [Act.put, List.setIfInBounds_toArray, List.set_cons_zero, List.set_cons_succ, i64_w, i32_w]
    rfl
  refine pure_ (i := 3) (N := some 118) (v := ?_) (a' := ?_) #[true, true, true, true, false, false, false, false, false, false, false, false, false, false, false] rfl rfl (by kernel_rfl) (fun _ _ _ h => h) (Or.inl ⟨by rfl, ?_⟩) ?_ ?_
  rotate_left
  · intro w'
    go_simp
    with_reducible rfl
  rotate_left
  · simp only [Act.put, List.setIfInBounds_toArray, List.set_cons_zero, List.set_cons_succ, i64_w, i32_w]
    rfl
  refine pure_ (i := 4) (N := some 119) (v := ?_) (a' := ?_) #[true, true, true, true, true, false, false, false, false, false, false, false, false, false, false] rfl rfl (by kernel_rfl) (fun _ _ _ h => h) (Or.inl ⟨by rfl, ?_⟩) ?_ ?_
  rotate_left
  · intro w'
    go_simp
    with_reducible rfl
  rotate_left
  · simp only [Act.put, List.setIfInBounds_toArray, List.set_cons_zero, List.set_cons_succ, i64_w, i32_w]
    rfl
  refine take_ (i := 5) (N := some 120) (v := ?_) (a' := ?_) #[true, true, true, true, true, true, false, false, false, false, false, false, false, false, false] rfl rfl (by kernel_rfl) (fun _ _ _ h => h) (Or.inl ⟨by rfl, ?_⟩) hHeld ?_ ?_
  rotate_left
  · rintro w' ⟨⟨s0, s1, s2, s3, s4⟩, s5⟩
    go_simp
    with_reducible rfl
  rotate_left
  · simp only [Act.put, List.setIfInBounds_toArray, List.set_cons_zero, List.set_cons_succ, i64_w, i32_w]
    rfl
  refine take_ (i := 6) (N := some 121) (v := ?_) (a' := ?_) #[true, true, true, true, true, true, true, false, false, false, false, false, false, false, false] rfl rfl (by kernel_rfl) (fun _ _ _ h => h) (Or.inl ⟨by rfl, ?_⟩) hHeld ?_ ?_
  rotate_left
  · rintro w' ⟨⟨s0, s1, s2, s3, s4⟩, s5⟩
    go_simp
    with_reducible rfl
  rotate_left
  · simp only [Act.put, List.setIfInBounds_toArray, List.set_cons_zero, List.set_cons_succ, i64_w, i32_w]
    rfl
  refine pure_ (i := 7) (N := some 122) (v := ?_) (a' := ?_) #[true, true, true, true, true, true, true, true, false, false, false, false, false, false, false] rfl rfl (by kernel_rfl) (fun _ _ _ h => h) (Or.inl ⟨by rfl, ?_⟩) ?_ ?_
  rotate_left
  · intro w'
    go_simp
    with_reducible rfl
  rotate_left
  · simp only [Act.put, List.setIfInBounds_toArray, List.set_cons_zero, List.set_cons_succ, i64_w, i32_w]
    rfl
  refine pure_ (i := 8) (N := some 123) (v := ?_) (a' := ?_) #[true, true, true, true, true, true, true, true, true, false, false, false, false, false, false] rfl rfl (by kernel_rfl) (fun _ _ _ h => h) (Or.inl ⟨by rfl, ?_⟩) ?_ ?_
  rotate_left
  · intro w'
    go_simp
    with_reducible rfl
  rotate_left
  · simp only [Act.put, List.setIfInBounds_toArray, List.set_cons_zero, List.set_cons_succ, i64_w, i32_w]
    rfl
  refine pure_ (i := 9) (N := some 124) (v := ?_) (a' := ?_) #[true, true, true, true, true, true, true, true, true, true, false, false, false, false, false] rfl rfl (by kernel_rfl) (fun _ _ _ h => h) (Or.inl ⟨by rfl, ?_⟩) ?_ ?_
  rotate_left
  · intro w'
    go_simp
    with_reducible rfl
  rotate_left
  · simp only [Act.put, List.setIfInBounds_toArray, List.set_cons_zero, List.set_cons_succ, i64_w, i32_w]
    rfl
  refine take_ (i := 10) (N := some 125) (v := ?_) (a' := ?_) #[true, true, true, true, true, true, true, true, true, true, true, false, false, false, false] rfl rfl (by kernel_rfl) (fun _ _ _ h => h) (Or.inl ⟨by rfl, ?_⟩) hHeld ?_ ?_
  rotate_left
  · rintro w' ⟨⟨s0, s1, s2, s3, s4⟩, s5⟩
    go_simp
    with_reducible rfl
  rotate_left
  · simp only [Act.put, List.setIfInBounds_toArray, List.set_cons_zero, List.set_cons_succ, i64_w, i32_w]
    rfl
  refine pure_ (i := 11) (N := some 126) (v := ?_) (a' := ?_) #[true, true, true, true, true, true, true, true, true, true, true, true, false, false, false] rfl rfl (by kernel_rfl) (fun _ _ _ h => h) (Or.inl ⟨by rfl, ?_⟩) ?_ ?_
  rotate_left
  · intro w'
    go_simp
    with_reducible rfl
  rotate_left
  · simp only [Act.put, List.setIfInBounds_toArray, List.set_cons_zero, List.set_cons_succ, i64_w, i32_w]
    rfl
  refine one_ (i := 12) (N := some 127) #[true, true, true, true, true, true, true, true, true, true, true, true, true, false, false] rfl rfl (by kernel_rfl) (by decide) (fun K hK => ?_)
  refine value_ (w1 := ?_) (v := ?_) (by rfl) rfl ?_ ?_
  rotate_left 2
  · go_simp
    constructor
    · rfl
    · rfl
  refine hK.out _ _ (HA.out _ v (Base.alloc (Base.drew (Clo.base HCc.out)) _) (Boxed.alloc (W := x5.drew) HCc.out.o _).cell) (fun hHeld => ?_)
  clear hK K
  refine norm_ (a' := ?_) ?_ ?_
  rotate_left
  · show Act.put _ (some 127) _ = _
    simp only [Act.put, List.setIfInBounds_toArray, List.set_cons_zero, List.set_cons_succ, i64_w, i32_w]
    rfl
  refine one_ (i := 13) (N := some 128) #[true, true, true, true, true, true, true, true, true, true, true, true, true, true, false] rfl rfl (by kernel_rfl) (by decide) (fun K hK => ?_)
  refine step_append_lies _ (by rfl) _ _ _ (by rfl) O 57 i0 _ 3 24 Try.underlying24 hi0 hz0 hz1 hz2 rfl (by omega) v out.length (flat57 out) (by rfl) (HCc.out.row.alloc _)
        ⟨x5.heap.size, 0, none⟩ 1 1 [.int .i64 x.f0, .bool x.f1, .int .i64 (-1)] (by rfl) (by rfl) (World.news_of_block (cs := #[.int .i64 x.f0, .bool x.f1, .int .i64 (-1)]) (t := 57) (fr := (0, 0)) (heap_alloc_new _ _)) (by simp [Value.oneCell'])
        (by omega) (by have := HL.out.hm; have := HL.out.hn; simp only [maxLen]; omega) (by have := HL.out.hm; have := HL.out.hn; omega) (by have := HCc.out.lt; simp; omega) _ rfl ?_
  intro gg cap w2 hown hgrow hat hlt
  clear hat hlt
  refine hK.out _ _ (HA.out _ v (Base.grown hHeld.2 hgrow HCc.out.row HCc.out.o HCc.out.k) (after_append ⟨x.f0, x.f1, -1⟩ HCc.out 1 hown hgrow).1) (fun hHeld => ?_)
  clear hK K
  refine norm_ (a' := ?_) ?_ ?_
  rotate_left
  · show Act.put _ (some 128) _ = _
    simp only [Act.put, List.setIfInBounds_toArray, List.set_cons_zero, List.set_cons_succ, i64_w, i32_w]
    rfl
  refine last_ (i := 14) (N := none) #[true, true, true, true, true, true, true, true, true, true, true, true, true, true, true] rfl rfl (by kernel_rfl) (by decide) (fun K hK => ?_)
  refine skip_ (w1 := ?_) (by rfl) rfl ?_ ?_
  rotate_left
  · go_simp
    rfl
  refine hK.out _ _ ?_
  refine done_ (by kernel_rfl) ?_
  all_goals
    obtain ⟨co2, fo2, ck2, hc3⟩ := after_append ⟨x.f0, x.f1, -1⟩ HCc.out 1 hown hgrow
    have HC3 := Lib.hid hc3
    clear hc3 hown hgrow
    go_wp2_with (fail)
    have hh := ih.out _ _ HC3.out
    rw [EI.out] at hh
    refine hh.mono ?_
    rintro e w3 ⟨rfl, h3⟩
    go_wp2
    first | go_end0 | ((try simp only [Exit.inBlock, Exit.then]); refine bodyPost_ret (results_none rfl _ _ _) rfl ?_)
    exact ⟨rfl, h3⟩

set_option maxRecDepth 100000 in
set_option maxHeartbeats 4000000 in
theorem walk_extra (w1 : World) (ms : List S68) (ps : List S45) (al : Option Addr) (cl : Nat) (A1 : Option Addr) (c1 : Nat) (L P T O B : Nat) (h : Lies w1 ms ps al cl A1 c1 L P T O B)
    (W : World) (v : Value) (out : List S57) (hc : Clo w1 L P T O W v out) (i j : Nat) (hlen : out.length ≤ i + j)
    (hi : i < ms.length) (hj : j < ps.length) (heq : ¬ tab ms ps i j = cst (rd_T68 ms i) (rd_T45 ps j) + tab ms ps (i + 1) (j + 1)) (hlost : ¬ tab ms ps i j = 120 + tab ms ps (i + 1) j) (G : List S57)
    (ih : Hid (∀ W v, Clo w1 L P T O W v (out ++ [⟨-1, false, j⟩]) → Calls Try.prog 27 #[.int .i64 (i : Int), .int .i64 (((j + 1 : Nat) : Int) : Int), .pointer (some ⟨L, 0, none⟩), .pointer (some ⟨P, 0, none⟩), .pointer (some ⟨T, 0, none⟩), .pointer (some ⟨O, 0, none⟩), .pointer (some ⟨O + 1, 0, none⟩)] W
      fun e W' => e = .returned (.tuple #[]) ∧ ∃ v', Clo w1 L P T O W' v' G)) :
    Calls Try.prog 27 #[.int .i64 (i : Int), .int .i64 (j : Int), .pointer (some ⟨L, 0, none⟩), .pointer (some ⟨P, 0, none⟩), .pointer (some ⟨T, 0, none⟩), .pointer (some ⟨O, 0, none⟩), .pointer (some ⟨O + 1, 0, none⟩)] W
      fun e W' => e = .returned (.tuple #[]) ∧ ∃ v', Clo w1 L P T O W' v' G := by
  obtain ⟨ad, rfl, _⟩ := at_T68 (h.rl _ hc.below) (i : Int) (by omega) (by omega)
  obtain ⟨ae, rfl, _⟩ := at_T45 (h.rp _ hc.below) (j : Int) (by omega) (by omega)
  have cl1 := (hc.below.cell (p := ⟨L, 0, none⟩) h.hL).trans h.l
  have HS := Lib.hid (fun W hc => cells_of (W := W) (v := v) (out := out) h i j hi hj hc)
  have HA := Lib.hid (fun W v hc hv => cells_v (W := W) (v := v) h i hi hc hv)
  have HCO := Lib.hid (cost_f (rd_T68 ms (i : Int)) (rd_T45 ps (j : Int)) (near1 h.near hi) (near2 h.near hj))
  have bt1 := tab_bd ms ps (i + 1) (j + 1) h.hm h.hn
  have bt2 := tab_bd ms ps (i + 1) j h.hm h.hn
  have bc := cst_bd (rd_T68 ms (i : Int)) (rd_T45 ps (j : Int)) (near1 h.near hi) (near2 h.near hj)
  have HL := Lib.hid h
  have HC := Lib.hid hc
  clear h hc
  obtain ⟨x, hx⟩ : ∃ x, rd_T68 ms (i : Int) = x := ⟨_, rfl⟩
  obtain ⟨y, hy⟩ : ∃ y, rd_T45 ps (j : Int) = y := ⟨_, rfl⟩
  rw [hx, hy] at HCO HS bc heq
  rw [hx] at HA
  clear hx hy
  have s1 : IntKind.i64.wrap (cst x y + tab ms ps (i + 1) (j + 1)) = cst x y + tab ms ps (i + 1) (j + 1) := by rw [IntKind.wrap_i64]; omega
  have s2 : IntKind.i64.wrap (120 + tab ms ps (i + 1) j) = 120 + tab ms ps (i + 1) j := by rw [IntKind.wrap_i64]; omega
  clear bt1 bt2 bc
  have hm48 := HL.out.hm
  have hn60 := HL.out.hn
  have i1 : (i : Int) < (ms.length : Int) := by omega
  have i2 : (i : Int) + 1 < 49 := by omega
  have i3 : (i : Int) < 49 := by omega
  have j1 : (j : Int) < (ps.length : Int) := by omega
  have j2 : (j : Int) + 1 < 61 := by omega
  have j3 : (j : Int) < 61 := by omega
  have i4 : (0 : Int) ≤ (i : Int) := by omega
  have i5 : (0 : Int) ≤ (i : Int) + 1 := by omega
  have j4 : (0 : Int) ≤ (j : Int) := by omega
  have j5 : (0 : Int) ≤ (j : Int) + 1 := by omega
  have i6 : IntKind.i64.wrap ((i : Int) + 1) = (i : Int) + 1 := by rw [IntKind.wrap_i64]; omega
  have j6 : IntKind.i64.wrap ((j : Int) + 1) = (j : Int) + 1 := by rw [IntKind.wrap_i64]; omega
  have i7 : ((i : Int) + 1).toNat = i + 1 := by omega
  have j7 : ((j : Int) + 1).toNat = j + 1 := by omega
  have EI := Lib.hid (show ((i + 1 : Nat) : Int) = (i : Int) + 1 by omega)
  have EJ := Lib.hid (show ((j + 1 : Nat) : Int) = (j : Int) + 1 by omega)
  have e1 : ((i : Int) == (ms.length : Int)) = false := by simp; omega
  have e3 : decide ((i : Int) < (ms.length : Int)) = true := by simp; omega
  have e4 : decide ((j : Int) < (ps.length : Int)) = true := by simp; omega
  have heq2 : (tab ms ps i j == cst x y + tab ms ps (i + 1) (j + 1)) = false := by simpa using heq
  clear heq
  have heq3 : (tab ms ps i j == 120 + tab ms ps (i + 1) j) = false := by simpa using hlost
  clear hlost
  go_enter Try.func27, Try.ntmps27
  go_wp2_with (fail)
  clear e1 cl1
  go_region_held3 (fun w' => (w'.cell? ⟨L, 0, none⟩ = some (.slice (some ad) ms.length cl) ∧ w'.cell? ⟨P, 0, none⟩ = some (.slice (some ae) ps.length c1) ∧ w'.cell? ⟨T, 0, none⟩ = some (.pointer (some ⟨B, 0, none⟩)) ∧
      w'.cell? (ad.add (i * 3)) = some (.int .i64 x.f0) ∧ w'.cell? ⟨(ad.add (i * 3)).block, (ad.add (i * 3)).off + 1, none⟩ = some (.bool x.f1) ∧ w'.cell? ⟨(ad.add (i * 3)).block, (ad.add (i * 3)).off + 2, none⟩ = some (.int .i64 x.f2) ∧
      w'.cell? (ae.add (j * 2)) = some (.int .i64 y.f0) ∧ w'.cell? ⟨(ae.add (j * 2)).block, (ae.add (j * 2)).off + 1, none⟩ = some (.bool y.f1) ∧
      w'.cell? ⟨B, (i + 1) * 61 + (j + 1), none⟩ = some (.int .i64 (tab ms ps (i + 1) (j + 1))) ∧
      w'.cell? ⟨B, (i + 1) * 61 + j, none⟩ = some (.int .i64 (tab ms ps (i + 1) j)) ∧
      w'.cell? ⟨B, i * 61 + j, none⟩ = some (.int .i64 (tab ms ps i j)) ∧
      w'.cell? ⟨O, 0, none⟩ = some v ∧ w'.frozen? ⟨O, 0, none⟩ = false) ∧ Clo w1 L P T O w' v out)
    (first
      | exact ⟨HS.out _ (Clo.drew HC.out), Clo.drew HC.out⟩
      | assumption
      | exact ⟨HS.out _ (Clo.call (held_clo (by assumption)) hb2), Clo.call (held_clo (by assumption)) hb2⟩)
    (first
      | (go_at_call 28; refine (punches_cost.calls _ _ _ _ _ _ _ HCO.out).mono ?_; rintro _ x4 ⟨rfl, hb2⟩))
  have HC2 := Lib.hid (Clo.call (Clo.drew HC.out) hb2)
  clear hb2
  obtain ⟨cL, cP, cT, -, -, -, -, -, -, cB1, cB0, -, -⟩ := HS.out _ HC2.out
  go_wp2_with (fail)
  go_quiet (fail)
  have HX := Lib.hid (Clo.drewN HC2.out nq)
  clear cL cP cT cB0 cB1
  revert HX
  generalize x4.drewN _ = x5
  intro HX
  have co := HX.out.o.cell
  have fo := HX.out.o.frozen
  obtain ⟨i0, hi0, hz0, hz1, hz2⟩ := info_parts info57
  go_wp2_with (at_builtin; refine wpList_append_lies _ rfl _ _ _ rfl O 57 i0 _ 3 24 Try.underlying24 hi0 hz0 hz1 hz2 rfl (by omega) v out.length (flat57 out) (by rfl) (HX.out.row.alloc _) ⟨x5.heap.size, 0, none⟩ 1 1 [.int .i64 (-1), .bool false, .int .i64 j] (by rfl) (by rfl) (World.news_of_block (cs := #[.int .i64 (-1), .bool false, .int .i64 j]) (t := 57) (fr := (0, 0)) (heap_alloc_new _ _)) (by simp [Value.oneCell']) (by omega) (by have := HL.out.hm; have := HL.out.hn; simp only [maxLen]; omega) (by have := HL.out.hm; have := HL.out.hn; omega) (by have := HX.out.lt; simp; omega) _ rfl ?_; intro gg cap w2 hown hgrow hat hgl; clear hat hgl; obtain ⟨co2, fo2, ck2, hc2⟩ := after_append ⟨-1, false, j⟩ HX.out 0 hown hgrow; have HC3 := Lib.hid hc2; clear hc2 hown hgrow)
  have hh := ih.out _ _ HC3.out
  rw [EJ.out] at hh
  refine hh.mono ?_
  rintro e w3 ⟨rfl, h3⟩
  go_wp2
  first | go_end0 | ((try simp only [Exit.inBlock, Exit.then]); refine bodyPost_ret (results_none rfl _ _ _) rfl ?_)
  exact ⟨rfl, h3⟩
end Go.Proofs.Ytpbamfoaoeicgaa.PAll
