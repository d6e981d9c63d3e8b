/- The closure where a mark and a punch match. -/
import Derived.Test.YtpbamfoaoeicgaaWalk
import Derived.Deep.RegionHeld3
import Derived.Deep.AppendLies
set_option linter.unusedVariables false
set_option linter.unusedSimpArgs false
namespace Go.Proofs.Ytpbamfoaoeicgaa.PAll
open Go Go.RowKit Go.Proofs.YtpbamfoaoeicgaaW.PrintWords Go.Proofs.YtpbamfoaoeicgaaW.PrintLast Go.Proofs.YtpbamfoaoeicgaaW.PrintMore

theorem Clo.drew {w1 W : World} {L P T O : Nat} {v : Value} {out : List S57} (h : Clo w1 L P T O W v out) : Clo w1 L P T O W.drew v out := ⟨h.below.drew, h.lt, h.o, h.k, h.row⟩
theorem Clo.call {w1 W W' : World} {L P T O : Nat} {v : Value} {out : List S57} (h : Clo w1 L P T O W v out) (hb : Below W.heap.size W W') : Clo w1 L P T O W' v out := by
  have hl := h.lt
  refine ⟨h.below.trans (hb.mono (by omega)), Nat.le_trans h.lt hb.size, (hb.block _ h.o.lt).trans h.o, (hb.block _ h.k.lt).trans h.k, h.row.1, ?_⟩
  rcases h.row.2 with hr | ⟨g, cap, cur, e, hg, hh, hr⟩
  · exact .inl hr
  · exact .inr ⟨g, cap, cur, e, hg, (hb.block _ (Array.getElem?_eq_some_iff.1 hh).1).trans hh, hr⟩

theorem cells_of {w1 W : World} {ms : List S68} {ps : List S45} {ad ae : Addr} {cl c1 L P T O B : Nat} {v : Value} {out : List S57} (h : Lies w1 ms ps (some ad) cl (some ae) c1 L P T O B) (i j : Nat) (hi : i < ms.length) (hj : j < ps.length) (hc : Clo w1 L P T O W v out) :
    W.cell? ⟨L, 0, none⟩ = some (.slice (some ad) ms.length cl) ∧ W.cell? ⟨P, 0, none⟩ = some (.slice (some ae) ps.length c1) ∧ W.cell? ⟨T, 0, none⟩ = some (.pointer (some ⟨B, 0, none⟩)) ∧
    W.cell? (ad.add (i * 3)) = some (.int .i64 (rd_T68 ms (i : Int)).f0) ∧ W.cell? ⟨(ad.add (i * 3)).block, (ad.add (i * 3)).off + 1, none⟩ = some (.bool (rd_T68 ms (i : Int)).f1) ∧ W.cell? ⟨(ad.add (i * 3)).block, (ad.add (i * 3)).off + 2, none⟩ = some (.int .i64 (rd_T68 ms (i : Int)).f2) ∧
    W.cell? (ae.add (j * 2)) = some (.int .i64 (rd_T45 ps (j : Int)).f0) ∧ W.cell? ⟨(ae.add (j * 2)).block, (ae.add (j * 2)).off + 1, none⟩ = some (.bool (rd_T45 ps (j : Int)).f1) ∧
    W.cell? ⟨B, (i + 1) * 61 + (j + 1), none⟩ = some (.int .i64 (tab ms ps (i + 1) (j + 1))) ∧
    W.cell? ⟨B, (i + 1) * 61 + j, none⟩ = some (.int .i64 (tab ms ps (i + 1) j)) ∧
    W.cell? ⟨B, i * 61 + j, none⟩ = some (.int .i64 (tab ms ps i j)) ∧
    W.cell? ⟨O, 0, none⟩ = some v ∧ W.frozen? ⟨O, 0, none⟩ = false := by
  obtain ⟨ad', e1, a1, a2, a3⟩ := at_T68 (h.rl _ hc.below) (i : Int) (by omega) (by omega)
  obtain ⟨ae', e2, b1, b2⟩ := at_T45 (h.rp _ hc.below) (j : Int) (by omega) (by omega)
  cases e1; cases e2
  rw [Int.toNat_natCast] at a1 a2 a3 b1 b2
  have ft := fun i' j' hi' hj' => (hc.below.cell (p := ⟨B, i' * 61 + j', none⟩) h.hB).trans (h.fill.2.2 i' j' hi' hj' trivial)
  exact ⟨(hc.below.cell (p := ⟨L, 0, none⟩) h.hL).trans h.l, (hc.below.cell (p := ⟨P, 0, none⟩) h.hP).trans h.p, (hc.below.cell (p := ⟨T, 0, none⟩) h.hT).trans h.t,
    a1, a2, a3, b1, b2, ft _ _ (by omega) (by omega), ft _ _ (by omega) (by omega), ft _ _ (by omega) (by omega), hc.o.cell, hc.o.frozen⟩
theorem held_clo {A : Prop} {w1 W : World} {L P T O : Nat} {v : Value} {out : List S57} (h : A ∧ Clo w1 L P T O W v out) : Clo w1 L P T O W v out := h.2

/-- what stays through the statement that appends -/
structure Base (w1 : World) (L P T O : Nat) (W : World) : Prop where
  below : Below O w1 W
  lt : O + 2 ≤ W.heap.size
  o : ∃ v, Boxed W O 24 v
  k : Boxed W (O + 1) 64 (clo L P T O)
theorem Clo.base {w1 W : World} {L P T O : Nat} {v : Value} {out : List S57} (h : Clo w1 L P T O W v out) : Base w1 L P T O W := ⟨h.below, h.lt, ⟨v, h.o⟩, h.k⟩
theorem Base.drew {w1 W : World} {L P T O : Nat} (h : Base w1 L P T O W) : Base w1 L P T O W.drew := ⟨h.below.drew, h.lt, h.o, h.k⟩
theorem Base.alloc {w1 W : World} {L P T O : Nat} (h : Base w1 L P T O W) (o : Obj) : Base w1 L P T O (W.alloc o) := by
  have hl := h.lt
  obtain ⟨v, hv⟩ := h.o
  exact ⟨h.below.alloc (by omega) o, by simp; omega, ⟨v, hv.alloc o⟩, h.k.alloc o⟩
theorem Base.grown {w1 W W' x : World} {L P T O : Nat} {v : Value} {n : Nat} {xs : List Value} (h : Base w1 L P T O W) (hg : W.grownBy W' v.ownBlock) (hr : x.ownsRow O 57 3 v n xs) (hx : Boxed x O 24 v) (hk : Boxed x (O + 1) 64 (clo L P T O)) : Base w1 L P T O W' := by
  have hl := h.lt
  obtain ⟨u, hu⟩ := h.o
  refine ⟨h.below.grown hg (by omega) (fun j ej => ?_), Nat.le_trans hl hg.size, ⟨u, hu.kept hg (hx.not_row (by decide) hr)⟩, h.k.kept hg (hk.not_row (by decide) hr)⟩
  rcases hr.2 with ⟨rfl, _⟩ | ⟨g, cap, cur, rfl, hb, _, _⟩
  · simp [Value.ownBlock] at ej
  · obtain rfl : g = j := by simpa [Value.ownBlock] using ej
    exact hb
theorem Base.set {w1 W : World} {L P T O : Nat} (h : Base w1 L P T O W) (v' : Value) : Base w1 L P T O (W.setCell ⟨O, 0, none⟩ v') := by
  obtain ⟨v, hv⟩ := h.o
  exact ⟨h.below.setCell (p := ⟨O, 0, none⟩) (Nat.le_refl _) v', Nat.le_trans h.lt (KeepsSize.setCell W _ _), ⟨v', hv.set v'⟩, h.k.kept (grownBy_setCell' W O v') (by simp)⟩
theorem held_base {A : Prop} {w1 W : World} {L P T O : Nat} (h : A ∧ Base w1 L P T O W) : Base w1 L P T O W := h.2
theorem valAt_of {W : World} {O : Nat} {v : Value} (h : Boxed W O 24 v) : valAt W ⟨O, 0, none⟩ = v := by unfold valAt; rw [h.cell]; rfl
theorem cells_app {w1 W : World} {ms : List S68} {ps : List S45} {ad : Addr} {A1 : Option Addr} {cl c1 L P T O B : Nat} (h : Lies w1 ms ps (some ad) cl A1 c1 L P T O B) (i : Nat) (hi : i < ms.length) (hc : Base w1 L P T O W) :
    W.cell? ⟨L, 0, none⟩ = some (.slice (some ad) ms.length cl) ∧
    W.cell? (ad.add (i * 3)) = some (.int .i64 (rd_T68 ms (i : Int)).f0) ∧ W.cell? ⟨(ad.add (i * 3)).block, (ad.add (i * 3)).off + 1, none⟩ = some (.bool (rd_T68 ms (i : Int)).f1) ∧
    W.cell? ⟨O, 0, none⟩ = some (valAt W ⟨O, 0, none⟩) ∧ W.frozen? ⟨O, 0, none⟩ = false := by
  obtain ⟨ad', e1, a1, a2, a3⟩ := at_T68 (h.rl _ hc.below) (i : Int) (by omega) (by omega)
  cases e1
  rw [Int.toNat_natCast] at a1 a2
  obtain ⟨v, hv⟩ := hc.o
  exact ⟨(hc.below.cell (p := ⟨L, 0, none⟩) h.hL).trans h.l, a1, a2, valAt_eq (by rw [hv.cell]; rfl), hv.frozen⟩

theorem cells_v {w1 W : World} {ms : List S68} {ps : List S45} {ad : Addr} {A1 : Option Addr} {cl c1 L P T O B : Nat} {v : Value} (h : Lies w1 ms ps (some ad) cl A1 c1 L P T O B) (i : Nat) (hi : i < ms.length) (hc : Base w1 L P T O W) (hv : W.cell? ⟨O, 0, none⟩ = some v) :
    (W.cell? ⟨L, 0, none⟩ = some (.slice (some ad) ms.length cl) ∧
    W.cell? (ad.add (i * 3)) = some (.int .i64 (rd_T68 ms (i : Int)).f0) ∧ W.cell? ⟨(ad.add (i * 3)).block, (ad.add (i * 3)).off + 1, none⟩ = some (.bool (rd_T68 ms (i : Int)).f1) ∧
    W.cell? ⟨O, 0, none⟩ = some v ∧ W.frozen? ⟨O, 0, none⟩ = false) ∧ Base w1 L P T O W := by
  obtain ⟨a, b, c, _, d⟩ := cells_app h i hi hc
  exact ⟨⟨a, b, c, hv, d⟩, hc⟩

set_option maxRecDepth 100000 in
set_option maxHeartbeats 4000000 in
theorem walk_match (w1 : World) (ms : List S68) (ps : List S45) (al : Option Addr) (cl : Nat) (A1 : Option Addr) (c1 : Nat) (L P T O B : Nat) (h : Lies w1 ms ps al cl A1 c1 L P T O B)
    (W : World) (v : Value) (out : List S57) (hc : Clo w1 L P T O W v out) (i j : Nat) (hi : i < ms.length) (hj : j < ps.length) (hlen : out.length ≤ i + j)
    (heq : tab ms ps i j = cst (rd_T68 ms i) (rd_T45 ps j) + tab ms ps (i + 1) (j + 1)) (G : List S57)
    (ih : Hid (∀ W v, Clo w1 L P T O W v (out ++ [⟨(rd_T68 ms i).f0, (rd_T68 ms i).f1, j⟩]) → Calls Try.prog 27 #[.int .i64 ((i + 1 : Nat) : Int), .int .i64 ((j + 1 : Nat) : Int), .pointer (some ⟨L, 0, none⟩), .pointer (some ⟨P, 0, none⟩), .pointer (some ⟨T, 0, none⟩), .pointer (some ⟨O, 0, none⟩), .pointer (some ⟨O + 1, 0, none⟩)] W
      fun e W' => e = .returned (.tuple #[]) ∧ ∃ v', Clo w1 L P T O W' v' G)) :
    Calls Try.prog 27 #[.int .i64 (i : Int), .int .i64 (j : Int), .pointer (some ⟨L, 0, none⟩), .pointer (some ⟨P, 0, none⟩), .pointer (some ⟨T, 0, none⟩), .pointer (some ⟨O, 0, none⟩), .pointer (some ⟨O + 1, 0, none⟩)] W
      fun e W' => e = .returned (.tuple #[]) ∧ ∃ v', Clo w1 L P T O W' v' G := by
  obtain ⟨ad, rfl, _⟩ := at_T68 (h.rl _ hc.below) (i : Int) (by omega) (by omega)
  obtain ⟨ae, rfl, _⟩ := at_T45 (h.rp _ hc.below) (j : Int) (by omega) (by omega)
  have cl1 := (hc.below.cell (p := ⟨L, 0, none⟩) h.hL).trans h.l
  have HS := Lib.hid (fun W hc => cells_of (W := W) (v := v) (out := out) h i j hi hj hc)
  have HA := Lib.hid (fun W v hc hv => cells_v (W := W) (v := v) h i hi hc hv)
  have HCO := Lib.hid (cost_f (rd_T68 ms (i : Int)) (rd_T45 ps (j : Int)) (near1 h.near hi) (near2 h.near hj))
  have bt1 := tab_bd ms ps (i + 1) (j + 1) h.hm h.hn
  have bc := cst_bd (rd_T68 ms (i : Int)) (rd_T45 ps (j : Int)) (near1 h.near hi) (near2 h.near hj)
  have HL := Lib.hid h
  have HC := Lib.hid hc
  clear h hc
  obtain ⟨x, hx⟩ : ∃ x, rd_T68 ms (i : Int) = x := ⟨_, rfl⟩
  obtain ⟨y, hy⟩ : ∃ y, rd_T45 ps (j : Int) = y := ⟨_, rfl⟩
  rw [hx, hy] at HCO HS bc heq
  rw [hx] at ih HA
  clear hx hy
  have s1 : IntKind.i64.wrap (cst x y + tab ms ps (i + 1) (j + 1)) = cst x y + tab ms ps (i + 1) (j + 1) := by rw [IntKind.wrap_i64]; omega
  clear bt1 bc
  have hm48 := HL.out.hm
  have hn60 := HL.out.hn
  have e1 : ((i : Int) == (ms.length : Int)) = false := by simp; omega
  have e3 : decide ((i : Int) < (ms.length : Int)) = true := by simp; omega
  have e4 : decide ((j : Int) < (ps.length : Int)) = true := by simp; omega
  have i1 : (i : Int) < (ms.length : Int) := by omega
  have i2 : (i : Int) + 1 < 49 := by omega
  have i3 : (i : Int) < 49 := by omega
  have j1 : (j : Int) < (ps.length : Int) := by omega
  have j2 : (j : Int) + 1 < 61 := by omega
  have j3 : (j : Int) < 61 := by omega
  have i4 : (0 : Int) ≤ (i : Int) := by omega
  have i5 : (0 : Int) ≤ (i : Int) + 1 := by omega
  have j4 : (0 : Int) ≤ (j : Int) := by omega
  have j5 : (0 : Int) ≤ (j : Int) + 1 := by omega
  have i6 : IntKind.i64.wrap ((i : Int) + 1) = (i : Int) + 1 := by rw [IntKind.wrap_i64]; omega
  have j6 : IntKind.i64.wrap ((j : Int) + 1) = (j : Int) + 1 := by rw [IntKind.wrap_i64]; omega
  have i7 : ((i : Int) + 1).toNat = i + 1 := by omega
  have j7 : ((j : Int) + 1).toNat = j + 1 := by omega
  have EI := Lib.hid (show ((i + 1 : Nat) : Int) = (i : Int) + 1 by omega)
  have EJ := Lib.hid (show ((j + 1 : Nat) : Int) = (j : Int) + 1 by omega)
  have heq2 : (tab ms ps i j == cst x y + tab ms ps (i + 1) (j + 1)) = true := by simp [heq]
  clear heq
  go_enter Try.func27, Try.ntmps27
  go_wp2_with (fail)
  clear e1 cl1
  go_region_held3 (fun w' => (w'.cell? ⟨L, 0, none⟩ = some (.slice (some ad) ms.length cl) ∧ w'.cell? ⟨P, 0, none⟩ = some (.slice (some ae) ps.length c1) ∧ w'.cell? ⟨T, 0, none⟩ = some (.pointer (some ⟨B, 0, none⟩)) ∧
      w'.cell? (ad.add (i * 3)) = some (.int .i64 x.f0) ∧ w'.cell? ⟨(ad.add (i * 3)).block, (ad.add (i * 3)).off + 1, none⟩ = some (.bool x.f1) ∧ w'.cell? ⟨(ad.add (i * 3)).block, (ad.add (i * 3)).off + 2, none⟩ = some (.int .i64 x.f2) ∧
      w'.cell? (ae.add (j * 2)) = some (.int .i64 y.f0) ∧ w'.cell? ⟨(ae.add (j * 2)).block, (ae.add (j * 2)).off + 1, none⟩ = some (.bool y.f1) ∧
      w'.cell? ⟨B, (i + 1) * 61 + (j + 1), none⟩ = some (.int .i64 (tab ms ps (i + 1) (j + 1))) ∧
      w'.cell? ⟨B, (i + 1) * 61 + j, none⟩ = some (.int .i64 (tab ms ps (i + 1) j)) ∧
      w'.cell? ⟨B, i * 61 + j, none⟩ = some (.int .i64 (tab ms ps i j)) ∧
      w'.cell? ⟨O, 0, none⟩ = some v ∧ w'.frozen? ⟨O, 0, none⟩ = false) ∧ Clo w1 L P T O w' v out)
    (first
      | exact ⟨HS.out _ (Clo.drew HC.out), Clo.drew HC.out⟩
      | assumption
      | exact ⟨HS.out _ (Clo.call (held_clo (by assumption)) hb2), Clo.call (held_clo (by assumption)) hb2⟩)
    (first
      | (go_at_call 28; refine (punches_cost.calls _ _ _ _ _ _ _ HCO.out).mono ?_; rintro _ x4 ⟨rfl, hb2⟩))
  have HC2 := Lib.hid (Clo.call (Clo.drew HC.out) hb2)
  clear hb2
  obtain ⟨i0, hi0, hz0, hz1, hz2⟩ := info_parts info57
  have hu24 := Try.underlying24
  go_wp2_with (fail)
  refine start_ (n := 16) (ds := [15]) (S := (fun w' => (w'.cell? ⟨L, 0, none⟩ = some (.slice (some ad) ms.length cl) ∧ w'.cell? (ad.add (i * 3)) = some (.int .i64 x.f0) ∧ w'.cell? ⟨(ad.add (i * 3)).block, (ad.add (i * 3)).off + 1, none⟩ = some (.bool x.f1) ∧ w'.cell? ⟨O, 0, none⟩ = some v ∧ w'.frozen? ⟨O, 0, none⟩ = false) ∧ Base w1 L P T O w')) #[false, false, false, false, false, false, false, false, false, false, false, false, false, false, false, false] rfl rfl rfl (HA.out _ v (Base.drew (Clo.base HC2.out)) HC2.out.drew.o.cell) (fun hHeld => ?_)
  refine take_ (i := 0) (N := some 70) (v := ?_) (a' := ?_) #[true, false, false, false, false, false, false, false, false, false, false, false, false, false, false, false] rfl rfl (by kernel_rfl) (fun _ _ _ h => h) (Or.inl ⟨by rfl, ?_⟩) hHeld ?_ ?_
  rotate_left
  · rintro w' ⟨⟨s0, s1, s2, s3, s4⟩, s5⟩
    go_simp
    with_reducible rfl
  rotate_left
  · simp only [Act.put, List.setIfInBounds_toArray, List.set_cons_zero, List.set_cons_succ, i64_w, i32_w]
    rfl
  refine take_ (i := 1) (N := some 71) (v := ?_) (a' := ?_) #[true, true, false, false, false, false, false, false, false, false, false, false, false, false, false, false] rfl rfl (by kernel_rfl) (fun _ _ _ h => h) (Or.inl ⟨by rfl, ?_⟩) hHeld ?_ ?_
  rotate_left
  · rintro w' ⟨⟨s0, s1, s2, s3, s4⟩, s5⟩
    go_simp
    with_reducible rfl
  rotate_left
  · simp only [Act.put, List.setIfInBounds_toArray, List.set_cons_zero, List.set_cons_succ, i64_w, i32_w]
    rfl
  refine pure_ (i := 2) (N := some 72) (v := ?_) (a' := ?_) #[true, true, true, false, false, false, false, false, false, false, false, false, false, false, false, false] rfl rfl (by kernel_rfl) (fun _ _ _ h => h) (Or.inl ⟨by rfl, ?_⟩) ?_ ?_
  rotate_left
  · intro w'
    go_simp
    with_reducible rfl
  rotate_left
  · simp only [Act.put, List.setIfInBounds_toArray, List.set_cons_zero, List.set_cons_succ, i64_w, i32_w]
    rfl
  refine pure_ (i := 3) (N := some 73) (v := ?_) (a' := ?_) #[true, true, true, true, false, false, false, false, false, false, false, false, false, false, false, false] rfl rfl (by kernel_rfl) (fun _ _ _ h => h) (Or.inl ⟨by rfl, ?_⟩) ?_ ?_
  rotate_left
  · intro w'
    go_simp
    with_reducible rfl
  rotate_left
  · simp only [Act.put, List.setIfInBounds_toArray, List.set_cons_zero, List.set_cons_succ, i64_w, i32_w]
    rfl
  refine pure_ (i := 4) (N := some 74) (v := ?_) (a' := ?_) #[true, true, true, true, true, false, false, false, false, false, false, false, false, false, false, false] rfl rfl (by kernel_rfl) (fun _ _ _ h => h) (Or.inl ⟨by rfl, ?_⟩) ?_ ?_
  rotate_left
  · intro w'
    go_simp
    with_reducible rfl
  rotate_left
  · simp only [Act.put, List.setIfInBounds_toArray, List.set_cons_zero, List.set_cons_succ, i64_w, i32_w]
    rfl
  refine take_ (i := 5) (N := some 75) (v := ?_) (a' := ?_) #[true, true, true, true, true, true, false, false, false, false, false, false, false, false, false, false] rfl rfl (by kernel_rfl) (fun _ _ _ h => h) (Or.inl ⟨by rfl, ?_⟩) hHeld ?_ ?_
  rotate_left
  · rintro w' ⟨⟨s0, s1, s2, s3, s4⟩, s5⟩
    go_simp
    with_reducible rfl
  rotate_left
  · simp only [Act.put, List.setIfInBounds_toArray, List.set_cons_zero, List.set_cons_succ, i64_w, i32_w]
    rfl
  refine take_ (i := 6) (N := some 76) (v := ?_) (a' := ?_) #[true, true, true, true, true, true, true, false, false, false, false, false, false, false, false, false] rfl rfl (by kernel_rfl) (fun _ _ _ h => h) (Or.inl ⟨by rfl, ?_⟩) hHeld ?_ ?_
  rotate_left
  · rintro w' ⟨⟨s0, s1, s2, s3, s4⟩, s5⟩
    go_simp
    with_reducible rfl
  rotate_left
  · simp only [Act.put, List.setIfInBounds_toArray, List.set_cons_zero, List.set_cons_succ, i64_w, i32_w]
    rfl
  refine pure_ (i := 7) (N := some 77) (v := ?_) (a' := ?_) #[true, true, true, true, true, true, true, true, false, false, false, false, false, false, false, false] rfl rfl (by kernel_rfl) (fun _ _ _ h => h) (Or.inl ⟨by rfl, ?_⟩) ?_ ?_
  rotate_left
  · intro w'
    go_simp
    with_reducible rfl
  rotate_left
  · simp only [Act.put, List.setIfInBounds_toArray, List.set_cons_zero, List.set_cons_succ, i64_w, i32_w]
    rfl
  refine pure_ (i := 8) (N := some 78) (v := ?_) (a' := ?_) #[true, true, true, true, true, true, true, true, true, false, false, false, false, false, false, false] rfl rfl (by kernel_rfl) (fun _ _ _ h => h) (Or.inl ⟨by rfl, ?_⟩) ?_ ?_
  rotate_left
  · intro w'
    go_simp
    with_reducible rfl
  rotate_left
  · simp only [Act.put, List.setIfInBounds_toArray, List.set_cons_zero, List.set_cons_succ, i64_w, i32_w]
    rfl
  refine pure_ (i := 9) (N := some 79) (v := ?_) (a' := ?_) #[true, true, true, true, true, true, true, true, true, true, false, false, false, false, false, false] rfl rfl (by kernel_rfl) (fun _ _ _ h => h) (Or.inl ⟨by rfl, ?_⟩) ?_ ?_
  rotate_left
  · intro w'
    go_simp
    with_reducible rfl
  rotate_left
  · simp only [Act.put, List.setIfInBounds_toArray, List.set_cons_zero, List.set_cons_succ, i64_w, i32_w]
    rfl
  refine take_ (i := 10) (N := some 80) (v := ?_) (a' := ?_) #[true, true, true, true, true, true, true, true, true, true, true, false, false, false, false, false] rfl rfl (by kernel_rfl) (fun _ _ _ h => h) (Or.inl ⟨by rfl, ?_⟩) hHeld ?_ ?_
  rotate_left
  · rintro w' ⟨⟨s0, s1, s2, s3, s4⟩, s5⟩
    go_simp
    with_reducible rfl
  rotate_left
  · simp only [Act.put, List.setIfInBounds_toArray, List.set_cons_zero, List.set_cons_succ, i64_w, i32_w]
    rfl
  refine pure_ (i := 11) (N := some 81) (v := ?_) (a' := ?_) #[true, true, true, true, true, true, true, true, true, true, true, true, false, false, false, false] rfl rfl (by kernel_rfl) (fun _ _ _ h => h) (Or.inl ⟨by rfl, ?_⟩) ?_ ?_
  rotate_left
  · intro w'
    go_simp
    with_reducible rfl
  rotate_left
  · simp only [Act.put, List.setIfInBounds_toArray, List.set_cons_zero, List.set_cons_succ, i64_w, i32_w]
    rfl
  refine pure_ (i := 12) (N := some 82) (v := ?_) (a' := ?_) #[true, true, true, true, true, true, true, true, true, true, true, true, true, false, false, false] rfl rfl (by kernel_rfl) (fun _ _ _ h => h) (Or.inl ⟨by rfl, ?_⟩) ?_ ?_
  rotate_left
  · intro w'
    go_simp
    with_reducible rfl
  rotate_left
  · simp only [Act.put, List.setIfInBounds_toArray, List.set_cons_zero, List.set_cons_succ, i64_w, i32_w]
    rfl
  refine one_ (i := 13) (N := some 83) #[true, true, true, true, true, true, true, true, true, true, true, true, true, true, false, false] rfl rfl (by kernel_rfl) (by decide) (fun K hK => ?_)
  refine value_ (w1 := ?_) (v := ?_) (by rfl) rfl ?_ ?_
  rotate_left 2
  · go_simp
    constructor
    · rfl
    · rfl
  refine hK.out _ _ (HA.out _ v (Base.alloc (Base.drew (Clo.base HC2.out)) _) (Boxed.alloc (W := x4.drew) HC2.out.o _).cell) (fun hHeld => ?_)
  clear hK K
  refine norm_ (a' := ?_) ?_ ?_
  rotate_left
  · show Act.put _ (some 83) _ = _
    simp only [Act.put, List.setIfInBounds_toArray, List.set_cons_zero, List.set_cons_succ, i64_w, i32_w]
    rfl
  refine one_ (i := 14) (N := some 84) #[true, true, true, true, true, true, true, true, true, true, true, true, true, true, true, false] rfl rfl (by kernel_rfl) (by decide) (fun K hK => ?_)
  refine step_append_lies _ (by rfl) _ _ _ (by rfl) O 57 i0 _ 3 24 Try.underlying24 hi0 hz0 hz1 hz2 rfl (by omega) v out.length (flat57 out) (by rfl) (HC2.out.row.alloc _)
        ⟨x4.heap.size, 0, none⟩ 1 1 [.int .i64 x.f0, .bool x.f1, .int .i64 j] (by rfl) (by rfl) (World.news_of_block (cs := #[.int .i64 x.f0, .bool x.f1, .int .i64 j]) (t := 57) (fr := (0, 0)) (heap_alloc_new _ _)) (by simp [Value.oneCell'])
        (by omega) (by have := HL.out.hm; have := HL.out.hn; simp only [maxLen]; omega) (by have := HL.out.hm; have := HL.out.hn; omega) (by have := HC2.out.lt; simp; omega) _ rfl ?_
  intro gg cap w2 hown hgrow hat hlt
  clear hat hlt
  refine hK.out _ _ (HA.out _ v (Base.grown hHeld.2 hgrow HC2.out.row HC2.out.o HC2.out.k) (after_append ⟨x.f0, x.f1, j⟩ HC2.out 1 hown hgrow).1) (fun hHeld => ?_)
  clear hK K
  refine norm_ (a' := ?_) ?_ ?_
  rotate_left
  · show Act.put _ (some 84) _ = _
    simp only [Act.put, List.setIfInBounds_toArray, List.set_cons_zero, List.set_cons_succ, i64_w, i32_w]
    rfl
  refine last_ (i := 15) (N := none) #[true, true, true, true, true, true, true, true, true, true, true, true, true, true, true, true] rfl rfl (by kernel_rfl) (by decide) (fun K hK => ?_)
  refine skip_ (w1 := ?_) (by rfl) rfl ?_ ?_
  rotate_left
  · go_simp
    rfl
  refine hK.out _ _ ?_
  refine done_ (by kernel_rfl) ?_
  all_goals
    obtain ⟨co2, fo2, ck2, hc3⟩ := after_append ⟨x.f0, x.f1, j⟩ HC2.out 1 hown hgrow
    have HC3 := Lib.hid hc3
    clear hc3 hown hgrow
    go_wp2_with (fail)
    have hh := ih.out _ _ HC3.out
    rw [EI.out, EJ.out] at hh
    refine hh.mono ?_
    rintro e w3 ⟨rfl, h3⟩
    go_wp2
    first | go_end0 | ((try simp only [Exit.inBlock, Exit.then]); refine bodyPost_ret (results_none rfl _ _ _) rfl ?_)
    exact ⟨rfl, h3⟩
end Go.Proofs.Ytpbamfoaoeicgaa.PAll
