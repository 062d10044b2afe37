/- '==' of two arrays, item by item. No condition. -/
import Derived.Test.YtfagobhhhljajaaWFn
import Derived.Test.YtfagobhhhljajaaWEqStruct
import Derived.ChangeKeysEq
namespace Go.Proofs.YtfagobhhhljajaaW.PrintMore
open Go.RowKit Go.Proofs.YtfagobhhhljajaaW.PrintWords
section
variable {P : Program} {d : Nat} {xs ys : Array Value} {a b : Value} {r s : Bool} {w : World} {e c i : Nat} {is : List Nat}
theorem eqi_cons (ha : (part e xs (i * c)).run P w = .ok a w) (hb : (part e ys (i * c)).run P w = .ok b w) (he : (Op.equalIn d e a b).run P w = .ok r w) (hr : (Op.eqItems d e c xs ys is).run P w = .ok s w) : (Op.eqItems d e c xs ys (i :: is)).run P w = .ok (r && s) w := by
 simp only [Op.eqItems, Sem.run_bind, ha, hb, he, Result.andThen_ok]
 cases r
 ·
  simp
 ·
  simpa using hr
theorem eqi_last (ha : (part e xs (i * c)).run P w = .ok a w) (hb : (part e ys (i * c)).run P w = .ok b w) (he : (Op.equalIn d e a b).run P w = .ok r w) : (Op.eqItems d e c xs ys [i]).run P w = .ok r w := by
 have h := eqi_cons (is := []) (s := true) ha hb he (by simp [Op.eqItems])
 rwa [Bool.and_true] at h
theorem eqArr_of {t : TypeId} {n : Nat} {l : List Nat} {q : TypeDesc} (hu : P.underlying t = some (.array n e)) (he : P.underlying e = some q) (hc : P.cellsOf e = c) (hl : List.range n = l) (h : (Op.eqItems d e c xs ys l).run P w = .ok r w) : (Op.equalIn (d + 1) t (.agg xs) (.agg ys)).run P w = .ok r w := by
 obtain ⟨i, hi⟩ := Go.info_of_underlying he
 rw [Go.run_equalIn_array w d xs ys hu hi, hc, hl]
 exact h
end
end Go.Proofs.YtfagobhhhljajaaW.PrintMore
