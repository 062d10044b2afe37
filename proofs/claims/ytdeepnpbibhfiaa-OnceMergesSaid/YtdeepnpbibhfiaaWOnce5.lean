/- The table's methods: See. No condition. -/
import Derived.Test.YtdeepnpbibhfiaaWOnce4
namespace Go.Proofs.YtdeepnpbibhfiaaW.PrintOnce
open Go Go.RowKit Go.Maps Go.Proofs.YtdeepnpbibhfiaaW.PrintWords Go.Proofs.YtdeepnpbibhfiaaW.PrintLast Go.Proofs.YtdeepnpbibhfiaaW.PrintMore Go.Proofs.YtdeepnpbibhfiaaW.PrintReg Go.Proofs.YtdeepnpbibhfiaaW.PrintTree
set_option linter.unusedVariables false
set_option linter.unusedSimpArgs false
/-- What is seen of a client and a number. -/
def seeV (T : List S33) (c s : Int) : S33 × Int := if seqT T c < s then (z33, 0) else match lkT T c with | some x => if s = x.f1 ∧ 0 ≤ x.f1 then (x, 1) else (z33, 2) | none => (z33, 2)
theorem zrep_eq : zrep = repV z33 (.slice none 0 0) := rfl
set_option maxHeartbeats 4000000 in
set_option maxRecDepth 100000 in
theorem see9 (base g b : Nat) (T : List S33) (c s : Int) (w : World) (h : Tbl w base g b T) (hw : (Lit.int .i64 c).wf = true) :
    Calls Try.prog 9 #[.pointer (some ⟨g, 0, none⟩), .int .i64 c, .int .i64 s] w fun e w' => ∃ v5, e = .returned (.tuple #[repV (seeV T c s).1 v5, .int .i64 (seeV T c s).2]) ∧ k71.R 71 w' w.heap.size (fun _ => True) v5 (seeV T c s).1.f5 ∧ Below w.heap.size w w' := by
  have HT := Aside0.mk h
  have HW := Aside0.mk hw
  have hpn := fun wx => run_eql_ptr_nil (P := Try.prog) wx 24 56 ⟨g, 0, none⟩ Try.underlying24
  obtain ⟨W, hW⟩ : ∃ W, W = w.alloc (.cells #[.int .i64 0, .int .i64 0, .int .i64 0, .bool false, .string ⟨#[]⟩, .slice none 0 0, .string ⟨#[]⟩, .bool false] 33) := ⟨_, rfl⟩
  have HB : Aside0 (Below w.heap.size w W) := ⟨by rw [hW]; exact below_alloc (Below.refl _ _) _⟩
  have H6 : Aside0 (W.heap[w.heap.size]? = some (.cells #[.int .i64 0, .int .i64 0, .int .i64 0, .bool false, .string ⟨#[]⟩, .slice none 0 0, .string ⟨#[]⟩, .bool false] 33 (0, 0))) := ⟨by rw [hW]; exact blk_new w _⟩
  obtain ⟨n, hn⟩ : ∃ n, n = seqT T c := ⟨_, rfl⟩
  have HN := Aside0.mk hn
  have FSEQ := Aside0.mk (seq18 base g b T c W (h.below HB.out) hw)
  rw [← hn] at FSEQ
  clear h hw hn
  go_enter Try.func9, Try.ntmps9
  go_wp2_with fail
  rw [← hW]
  refine FSEQ.out.mono ?_
  rintro e w1 ⟨rfl, hb⟩
  obtain ⟨g6, hg6⟩ : ∃ g, g = w.heap.size := ⟨_, rfl⟩
  have H1 := Aside0.mk (blk_below H6.out hb)
  have HB1 := Aside0.mk (below_step HB.out hb)
  rw [← hg6] at H1 ⊢
  have HG6 := Aside0.mk hg6
  clear hW hb FSEQ HB H6 hg6
  by_cases q1 : n < s
  · have r1 := eq_true q1
    have HS : Aside0 (seeV T c s = (z33, 0)) := ⟨by unfold seeV; rw [← HN.out, if_pos q1]⟩
    obtain ⟨⟨x0, y0, x1, y1, x2, y2, x3, y3, x4, y4, x5, y5, x6, y6, x7, y7⟩, b4, ho⟩ := st8 H1.out (.int .i64 0) (.int .i64 0) (.int .i64 0) (.bool false) (.string ⟨#[]⟩) (.slice none 0 0) (.string ⟨#[]⟩) (.bool false)
    have B4 := Aside0.mk (And.intro b4 ho)
    clear q1 b4 ho
    go_wp2_with fail
    refine bodyPost_ret (results_list (rs := [.cell 6 33, .tmp 7]) rfl (by simp) (.cell g6 33 _ (0, 0) _ rfl B4.out.1 Try.underlying33 rfl (by kernel_rfl) (.tmp .nil))) rfl ?_
    rw [HS.out]
    exact ⟨_, rfl, Kd.R_nil _ _ _ _ _, HB1.out.trans (B4.out.2.to_below HB1.out.size (fun k hk => by rw [hk, HG6.out]; exact Nat.le_refl _))⟩
  · have r1 := eq_false q1
    by_cases q2 : s = n ∧ 0 ≤ n
    · have r2 := eq_true q2.1
      have r3 : (s == n) = true := by simpa using q2.1
      have r4 := eq_true q2.2
      have r5 : (n ≥ 0) = True := eq_true q2.2
      obtain ⟨ms, m1, m2, m3, m4, m5⟩ := HT.out.below HB1.out
      rcases m5.find c with ⟨e1, e2⟩ | ⟨x, v5, e1, e2, e3, e4⟩
      · have := HN.out
        unfold seqT at this
        rw [e1] at this
        simp only [] at this
        omega
      · have HX : Aside0 (seeV T c s = (x, 1)) := ⟨by
          have hnx : n = x.f1 := by rw [HN.out]; unfold seqT; rw [e1]
          unfold seeV; rw [← HN.out, if_neg q1, e1]; simp only []; rw [if_pos ⟨by omega, by omega⟩]⟩
        obtain ⟨A5, c5, rfl⟩ := Kd.R_slice e3
        have hl := look_run m3 c HW.out false
        rw [e2] at hl
        have c0 : w1.cell? ⟨g, 0, none⟩ = some (.map (some b)) := (blk_cell m1 0).trans rfl
        have HC := Aside0.mk (Kd.R_reads' e3)
        have H4 := Aside0.mk e4
        clear q1 q2 m1 m2 m3 m4 m5 e1 e2 e3 e4
        go_wp2_with fail
        refine (copied19 x A5 c5 _ HC.out.2.2 HC.out.2.1 H4.out).mono ?_
        rintro e w2 ⟨v5, rfl, hR, hb⟩
        obtain ⟨A6, c6, rfl⟩ := Kd.R_slice hR
        have h2 := blk_below H1.out hb
        obtain ⟨⟨x0, y0, x1, y1, x2, y2, x3, y3, x4, y4, x5, y5, x6, y6, x7, y7⟩, b4, ho⟩ := st8 h2 (.int .i64 x.f0) (.int .i64 x.f1) (.int .i64 x.f2) (.bool x.f3) (.string x.f4) (.slice A6 x.f5.length c6) (.string x.f6) (.bool x.f7)
        have B4 := Aside0.mk (And.intro b4 ho)
        have HR := Aside0.mk (And.intro hR hb)
        clear b4 ho hR hb h2
        go_wp2_with fail
        refine bodyPost_ret (results_list (rs := [.cell 6 33, .tmp 7]) rfl (by simp) (.cell g6 33 _ (0, 0) _ rfl B4.out.1 Try.underlying33 rfl (by kernel_rfl) (.tmp .nil))) rfl ?_
        rw [HX.out]
        have hlt := blk_lt H1.out
        have hb9 := below_step HB1.out HR.out.2
        exact ⟨_, rfl, Kd.R_mono (Kd.R_lower (Kd.R_step (Kd.R_bound HR.out.1) (fun k hk hk2 => B4.out.2.block k hk2 (by have := hk.2.1; omega))) HB1.out.size) (fun _ _ => trivial), hb9.trans (B4.out.2.to_below hb9.size (fun k hk => by rw [hk, HG6.out]; exact Nat.le_refl _))⟩
    · have HS : Aside0 (seeV T c s = (z33, 2)) := ⟨by
        unfold seeV; rw [← HN.out, if_neg q1]
        cases hk : lkT T c with
        | none => rfl
        | some x =>
          have hnx : n = x.f1 := by rw [HN.out]; unfold seqT; rw [hk]
          simp only []
          rw [if_neg (by omega)]⟩
      obtain ⟨⟨x0, y0, x1, y1, x2, y2, x3, y3, x4, y4, x5, y5, x6, y6, x7, y7⟩, b4, ho⟩ := st8 H1.out (.int .i64 0) (.int .i64 0) (.int .i64 0) (.bool false) (.string ⟨#[]⟩) (.slice none 0 0) (.string ⟨#[]⟩) (.bool false)
      have B4 := Aside0.mk (And.intro b4 ho)
      by_cases q3 : s = n
      · have r2 := eq_true q3
        have r3 : (s == n) = true := by simpa using q3
        have r4 : (0 ≤ n) = False := eq_false (by omega)
        have r5 : (n ≥ 0) = False := eq_false (by omega)
        clear q1 q2 q3 b4 ho
        go_wp2_with fail
        refine bodyPost_ret (results_list (rs := [.cell 6 33, .tmp 7]) rfl (by simp) (.cell g6 33 _ (0, 0) _ rfl B4.out.1 Try.underlying33 rfl (by kernel_rfl) (.tmp .nil))) rfl ?_
        rw [HS.out]
        exact ⟨_, rfl, Kd.R_nil _ _ _ _ _, HB1.out.trans (B4.out.2.to_below HB1.out.size (fun k hk => by rw [hk, HG6.out]; exact Nat.le_refl _))⟩
      · have r2 := eq_false q3
        have r3 : (s == n) = false := by simpa using q3
        clear q1 q2 q3 b4 ho
        go_wp2_with fail
        refine bodyPost_ret (results_list (rs := [.cell 6 33, .tmp 7]) rfl (by simp) (.cell g6 33 _ (0, 0) _ rfl B4.out.1 Try.underlying33 rfl (by kernel_rfl) (.tmp .nil))) rfl ?_
        rw [HS.out]
        exact ⟨_, rfl, Kd.R_nil _ _ _ _ _, HB1.out.trans (B4.out.2.to_below HB1.out.size (fun k hk => by rw [hk, HG6.out]; exact Nat.le_refl _))⟩
end Go.Proofs.YtdeepnpbibhfiaaW.PrintOnce
