/- The stable sort of package slices, the merge (gensort.py). No condition. -/
import Derived.Test.YtdmahdgcfaieoaaWSort3
import Derived.Test.YtdmahdgcfaieoaaWSort4
import Derived.Test.YtdmahdgcfaieoaaWSort6
import Derived.Test.YtdmahdgcfaieoaaWSort7
namespace Go.Proofs.YtdmahdgcfaieoaaW.PrintSort
open Go Go.RowKit Go.Proofs.YtdmahdgcfaieoaaW.PrintWords Go.Proofs.YtdmahdgcfaieoaaW.PrintLast Go.Proofs.YtdmahdgcfaieoaaW.PrintMore Go.Proofs.YtdmahdgcfaieoaaW.PrintReg Go.Proofs.YtdmahdgcfaieoaaW.PrintTree
set_option linter.unusedVariables false
set_option linter.unusedSimpArgs false
set_option maxHeartbeats 4000000 in
set_option maxRecDepth 100000 in
theorem symMerge_calls (XX : List Value) (g o n c : Nat) (ad : Addr) (had : ad = ⟨g, o, none⟩) (fc : Nat) (caps : Array Value) (hfc : ∀ args W, (callFunc fc args).run Try.prog W = .ok (.enter fc args) W) (cmpf : Int → Int → Int) (k : Int → Int) (hk : ∀ x y, cmpf x y < 0 ↔ k x < k y) (w0 : World) (HC : ∀ (x y : Int) (W : World), On (· = g) w0 W → Calls Try.prog fc (#[.int .i32 x, .int .i32 y] ++ caps) W fun e w' => e = .returned (.int .i64 (cmpf x y)) ∧ Below W.heap.size W w') (hN : n ≤ 1152921504606846975) : ∀ (N ia im ib : Nat) (P L R Q : List Int) (w : World), Arr XX w g (P ++ L ++ R ++ Q) → On (· = g) w0 w → P.length = o + ia → ia + L.length = im → im + R.length = ib → 0 < L.length → 0 < R.length → ib ≤ n → o + n ≤ (P ++ L ++ R ++ Q).length → Srt k L → Srt k R → L.length + R.length = N →
      Calls Try.prog 40 #[.slice (some ad) n c, .int .i64 (ia : Int), .int .i64 (im : Int), .int .i64 (ib : Int), .func (.func fc) #[] caps] w fun e w' => e = .returned (.tuple #[]) ∧ ∃ M, Arr XX w' g (P ++ M ++ Q) ∧ St k (L ++ R) M ∧ On (· = g) w w' := by
  intro N
  induction N using Nat.strongRecOn with
  | ind N ih =>
    intro ia im ib P L R Q w hA hw0 hP hL hR hl hr hb hn hS1 hS2 hsz
    by_cases h1 : L.length = 1
    · obtain ⟨x0, rfl⟩ := List.length_eq_one_iff.1 h1
      exact symleft_calls XX g o n c ad had fc caps hfc cmpf k hk w0 HC ia im ib x0 P R Q w hA hw0 hP hL hR hS2 hb hn hN
    · by_cases h2 : R.length = 1
      · obtain ⟨y0, rfl⟩ := List.length_eq_one_iff.1 h2
        exact symright_calls XX g o n c ad had fc caps hfc cmpf k hk w0 HC ia im ib y0 P L Q w hA hw0 hP hL hR h1 hS1 hb hn hN
      · by_cases h3 : (ia + ib) / 2 < im
        · exact symgen1_calls XX g o n c ad had fc caps hfc cmpf k hk w0 HC ia im ib P L R Q w hA hw0 hP hL hR (by omega) (by omega) hS1 hS2 N hsz h3 (fun ia im ib P L R Q w a1 a2 a3 a4 a5 a6 a7 a8 a9 a10 a11 a12 => ih _ a12 ia im ib P L R Q w a1 a2 a3 a4 a5 a6 a7 a8 a9 a10 a11 rfl) hb hn hN
        · exact symgen2_calls XX g o n c ad had fc caps hfc cmpf k hk w0 HC ia im ib P L R Q w hA hw0 hP hL hR (by omega) (by omega) hS1 hS2 N hsz h3 (fun ia im ib P L R Q w a1 a2 a3 a4 a5 a6 a7 a8 a9 a10 a11 a12 => ih _ a12 ia im ib P L R Q w a1 a2 a3 a4 a5 a6 a7 a8 a9 a10 a11 rfl) hb hn hN
end Go.Proofs.YtdmahdgcfaieoaaW.PrintSort
