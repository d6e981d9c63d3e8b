/- The whole walk of the closure. -/
import Derived.Test.YtpbamfoaoeicgaaWalk3
set_option linter.unusedVariables false
set_option linter.unusedSimpArgs false
namespace Go.Proofs.Ytpbamfoaoeicgaa.PAll
open Go Go.RowKit Go.Proofs.YtpbamfoaoeicgaaW.PrintWords Go.Proofs.YtpbamfoaoeicgaaW.PrintLast Go.Proofs.YtpbamfoaoeicgaaW.PrintMore

theorem walk_all (w1 : World) (ms : List S68) (ps : List S45) (al : Option Addr) (cl : Nat) (A1 : Option Addr) (c1 : Nat) (L P T O B : Nat) (h : Lies w1 ms ps al cl A1 c1 L P T O B) :
    ∀ N i j (W : World) (v : Value) (out : List S57), (ms.length - i) + (ps.length - j) ≤ N → i ≤ ms.length → j ≤ ps.length → out.length ≤ i + j → Clo w1 L P T O W v out →
    Calls Try.prog 27 #[.int .i64 (i : Int), .int .i64 (j : Int), .pointer (some ⟨L, 0, none⟩), .pointer (some ⟨P, 0, none⟩), .pointer (some ⟨T, 0, none⟩), .pointer (some ⟨O, 0, none⟩), .pointer (some ⟨O + 1, 0, none⟩)] W
      fun e W' => e = .returned (.tuple #[]) ∧ ∃ v', Clo w1 L P T O W' v' (out ++ wk ms ps i j) := by
  intro N
  induction N with
  | zero =>
    intro i j W v out hN hi hj hlen hc
    obtain rfl : i = ms.length := by omega
    obtain rfl : j = ps.length := by omega
    refine (walk_end w1 ms ps al cl A1 c1 L P T O B h W v out hc).mono ?_
    rintro e W' ⟨rfl, rfl⟩
    refine ⟨rfl, v, ?_⟩
    rw [wk]; simpa using hc
  | succ N IH =>
    intro i j W v out hN hi hj hlen hc
    by_cases hm : i = ms.length
    · by_cases hn : j = ps.length
      · subst hm hn
        refine (walk_end w1 ms ps al cl A1 c1 L P T O B h W v out hc).mono ?_
        rintro e W' ⟨rfl, rfl⟩
        refine ⟨rfl, v, ?_⟩
        rw [wk]; simpa using hc
      · have hj' : j < ps.length := by omega
        have hw : wk ms ps i j = ⟨-1, false, j⟩ :: wk ms ps i (j + 1) := by
          rw [wk, if_neg (by omega), if_neg (by omega), if_pos hj']
        rw [hw, show out ++ ⟨-1, false, (j : Int)⟩ :: wk ms ps i (j + 1) = out ++ [⟨-1, false, (j : Int)⟩] ++ wk ms ps i (j + 1) by simp]
        exact walk_tail w1 ms ps al cl A1 c1 L P T O B h W v out hc i j hm hj' hlen (Lib.hid (fun W v hc => IH i (j + 1) W v _ (by omega) hi hj' (by simp; omega) hc))
    · have hi' : i < ms.length := by omega
      by_cases hn : j = ps.length
      · have hl : tab ms ps i j = 120 + tab ms ps (i + 1) j := by
          rw [tab_edge ms ps i j hi hj (.inr hn), tab_edge ms ps (i + 1) j hi' hj (.inr hn)]; omega
        have hw : wk ms ps i j = ⟨(rd_T68 ms i).f0, (rd_T68 ms i).f1, -1⟩ :: wk ms ps (i + 1) j := by
          rw [wk, if_neg (by omega), if_pos ⟨hi', hl⟩]
        rw [hw]
        exact walk_lost2 w1 ms ps al cl A1 c1 L P T O B h W v out hc i j hlen hi' (by omega) hj hl _ (Lib.hid (fun W v hc => by
          have := IH (i + 1) j W v _ (by omega) hi' hj (by simp; omega) hc
          simpa using this))
      · have hj' : j < ps.length := by omega
        by_cases he : tab ms ps i j = cst (rd_T68 ms i) (rd_T45 ps j) + tab ms ps (i + 1) (j + 1)
        · have hw : wk ms ps i j = ⟨(rd_T68 ms i).f0, (rd_T68 ms i).f1, j⟩ :: wk ms ps (i + 1) (j + 1) := by
            rw [wk, if_pos ⟨hi', hj', he⟩]
          rw [hw]
          exact walk_match w1 ms ps al cl A1 c1 L P T O B h W v out hc i j hi' hj' hlen he _ (Lib.hid (fun W v hc => by
            have := IH (i + 1) (j + 1) W v _ (by omega) hi' hj' (by simp; omega) hc
            simpa using this))
        · by_cases hl : tab ms ps i j = 120 + tab ms ps (i + 1) j
          · have hw : wk ms ps i j = ⟨(rd_T68 ms i).f0, (rd_T68 ms i).f1, -1⟩ :: wk ms ps (i + 1) j := by
              rw [wk, if_neg (fun h => he h.2.2), if_pos ⟨hi', hl⟩]
            rw [hw]
            exact walk_lost1 w1 ms ps al cl A1 c1 L P T O B h W v out hc i j hlen hi' hj' he hl _ (Lib.hid (fun W v hc => by
              have := IH (i + 1) j W v _ (by omega) hi' hj (by simp; omega) hc
              simpa using this))
          · have hw : wk ms ps i j = ⟨-1, false, j⟩ :: wk ms ps i (j + 1) := by
              rw [wk, if_neg (fun h => he h.2.2), if_neg (fun h => hl h.2), if_pos hj']
            rw [hw]
            exact walk_extra w1 ms ps al cl A1 c1 L P T O B h W v out hc i j hlen hi' hj' he hl _ (Lib.hid (fun W v hc => by
              have := IH i (j + 1) W v _ (by omega) hi hj' (by simp; omega) hc
              simpa using this))
end Go.Proofs.Ytpbamfoaoeicgaa.PAll
