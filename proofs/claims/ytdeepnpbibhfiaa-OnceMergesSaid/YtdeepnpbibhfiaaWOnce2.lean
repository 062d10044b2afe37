/- The table of last answers: what it is, its methods. No condition. -/
import Derived.Test.YtdeepnpbibhfiaaWOnce1
namespace Go.Proofs.YtdeepnpbibhfiaaW.PrintOnce
open Go Go.RowKit Go.Proofs.YtdeepnpbibhfiaaW.PrintWords Go.Proofs.YtdeepnpbibhfiaaW.PrintLast Go.Proofs.YtdeepnpbibhfiaaW.PrintMore Go.Proofs.YtdeepnpbibhfiaaW.PrintReg Go.Proofs.YtdeepnpbibhfiaaW.PrintTree
set_option linter.unusedVariables false
set_option linter.unusedSimpArgs false
/-! #### struct type 71 -/
structure S71 where
  f0 : ByteArray
  f1 : ByteArray
def z71 : S71 := ⟨(⟨#[]⟩ : ByteArray), (⟨#[]⟩ : ByteArray)⟩
def k71 : Kd S71 := Kd.iso (Kd.pair Kd.string Kd.string) (fun x : S71 => (x.f0, x.f1))
theorem k71_open {w : World} {x : S71} {cs : List Value} (h : k71.K w x cs) : cs = [.string x.f0, .string x.f1] := by
  obtain ⟨_, _, rfl, rfl, rfl⟩ := h
  exact rfl
theorem k71_openM {w : World} {base : Nat} {ok : Nat → Prop} {x : S71} {cs : List Value} (h : k71.M w base ok x cs) : cs = [.string x.f0, .string x.f1] := by
  obtain ⟨_, _, rfl, rfl, rfl⟩ := h
  exact rfl
theorem k71_mk (w : World) (x : S71)  : k71.K w x [.string x.f0, .string x.f1] := ⟨[.string x.f0], [.string x.f1], rfl, rfl, rfl⟩
theorem k71_mkM (w : World) (base : Nat) (ok : Nat → Prop) (x : S71)  : k71.M w base ok x [.string x.f0, .string x.f1] := ⟨[.string x.f0], [.string x.f1], rfl, rfl, rfl⟩
theorem k71_mkF (W : World) (ok : Nat → Prop) (x : S71) : Kd.FK k71 W ok x [.string x.f0, .string x.f1] := fun W2 _ => k71_mk W2 x
def rd_T71 (xs : List S71) (i : Int) : S71 := xs.getD i.toNat z71
theorem at_T71 {w : World} {A : Option Addr} {n : Nat} {xs : List S71} (h : Kd.C k71 w A n xs) (i : Int) (h0 : 0 ≤ i) (h1 : i < n) : ∃ ad , A = some ad ∧ w.cell? (ad.add (i.toNat * 2)) = some (.string (rd_T71 xs i).f0) ∧ w.cell? ⟨(ad.add (i.toNat * 2)).block, (ad.add (i.toNat * 2)).off + 1, none⟩ = some (.string (rd_T71 xs i).f1) := by
  obtain ⟨ad, c, e, _, hK, hc0⟩ := Kd.C_get h z71 i h0 h1
  have hc : ∀ j u, c[j]? = some u → w.cell? (ad.add (i.toNat * 2 + j)) = some u := hc0
  obtain rfl := k71_open hK
  exact ⟨ad, e, hc 0 _ rfl, by rw [← add_field _ _ 1 (by omega)]; exact hc 1 _ rfl⟩

def rd_L4 (xs : List (List S71)) (i : Int) : (List S71) := xs.getD i.toNat ([] : List S71)
theorem at_L4 {w : World} {A : Option Addr} {n : Nat} {xs : List (List S71)} (h : Kd.C (Kd.slice 71 k71) w A n xs) (i : Int) (h0 : 0 ≤ i) (h1 : i < n) : ∃ ad A0 c0, A = some ad ∧ w.cell? (ad.add i.toNat) = some (.slice A0 (rd_L4 xs i).length c0) ∧ (rd_L4 xs i).length ≤ c0 ∧ k71.C w A0 (rd_L4 xs i).length (rd_L4 xs i) := by
  obtain ⟨ad, c, e, _, hK, hc0⟩ := Kd.C_get h ([] : List S71) i h0 h1
  have hc : ∀ j u, c[j]? = some u → w.cell? (ad.add (i.toNat * 1 + j)) = some u := hc0
  obtain ⟨A0, c0, rfl, l0, g0⟩ := hK
  exact ⟨ad, A0, c0, e, by have hq := hc 0 _ rfl; rwa [Nat.mul_one, Nat.add_zero] at hq, l0, g0⟩

/-! #### struct type 33 -/
structure S33 where
  f0 : Int
  f1 : Int
  f2 : Int
  f3 : Bool
  f4 : ByteArray
  f5 : (List S71)
  f6 : ByteArray
  f7 : Bool
def z33 : S33 := ⟨(0 : Int), (0 : Int), (0 : Int), false, (⟨#[]⟩ : ByteArray), ([] : List S71), (⟨#[]⟩ : ByteArray), false⟩
def k33 : Kd S33 := Kd.iso (Kd.pair (Kd.int .i64) (Kd.pair (Kd.int .i64) (Kd.pair (Kd.int .i64) (Kd.pair Kd.bool (Kd.pair Kd.string (Kd.pair (Kd.slice 71 k71) (Kd.pair Kd.string Kd.bool))))))) (fun x : S33 => (x.f0, x.f1, x.f2, x.f3, x.f4, x.f5, x.f6, x.f7))
theorem k33_open {w : World} {x : S33} {cs : List Value} (h : k33.K w x cs) : ∃ A5 c5, cs = [.int .i64 x.f0, .int .i64 x.f1, .int .i64 x.f2, .bool x.f3, .string x.f4, .slice A5 x.f5.length c5, .string x.f6, .bool x.f7] ∧ x.f5.length ≤ c5 ∧ k71.C w A5 x.f5.length x.f5 := by
  obtain ⟨_, _, rfl, rfl, ⟨_, _, rfl, rfl, ⟨_, _, rfl, rfl, ⟨_, _, rfl, rfl, ⟨_, _, rfl, rfl, ⟨_, _, rfl, ⟨A5, c5, rfl, l5, g5⟩, ⟨_, _, rfl, rfl, rfl⟩⟩⟩⟩⟩⟩⟩ := h
  exact ⟨A5, c5, rfl, l5, g5⟩
theorem k33_openM {w : World} {base : Nat} {ok : Nat → Prop} {x : S33} {cs : List Value} (h : k33.M w base ok x cs) : ∃ v5, cs = [.int .i64 x.f0, .int .i64 x.f1, .int .i64 x.f2, .bool x.f3, .string x.f4, v5, .string x.f6, .bool x.f7] ∧ k71.R 71 w base ok v5 x.f5 := by
  obtain ⟨_, _, rfl, rfl, ⟨_, _, rfl, rfl, ⟨_, _, rfl, rfl, ⟨_, _, rfl, rfl, ⟨_, _, rfl, rfl, ⟨_, _, rfl, ⟨v5, rfl, g5⟩, ⟨_, _, rfl, rfl, rfl⟩⟩⟩⟩⟩⟩⟩ := h
  exact ⟨v5, rfl, g5⟩
theorem k33_mk (w : World) (x : S33) {A5 : Option Addr} {c5 : Nat} (l5 : x.f5.length ≤ c5) (g5 : k71.C w A5 x.f5.length x.f5) : k33.K w x [.int .i64 x.f0, .int .i64 x.f1, .int .i64 x.f2, .bool x.f3, .string x.f4, .slice A5 x.f5.length c5, .string x.f6, .bool x.f7] := ⟨[.int .i64 x.f0], [.int .i64 x.f1, .int .i64 x.f2, .bool x.f3, .string x.f4, .slice A5 x.f5.length c5, .string x.f6, .bool x.f7], rfl, rfl, ⟨[.int .i64 x.f1], [.int .i64 x.f2, .bool x.f3, .string x.f4, .slice A5 x.f5.length c5, .string x.f6, .bool x.f7], rfl, rfl, ⟨[.int .i64 x.f2], [.bool x.f3, .string x.f4, .slice A5 x.f5.length c5, .string x.f6, .bool x.f7], rfl, rfl, ⟨[.bool x.f3], [.string x.f4, .slice A5 x.f5.length c5, .string x.f6, .bool x.f7], rfl, rfl, ⟨[.string x.f4], [.slice A5 x.f5.length c5, .string x.f6, .bool x.f7], rfl, rfl, ⟨[.slice A5 x.f5.length c5], [.string x.f6, .bool x.f7], rfl, ⟨A5, c5, rfl, l5, g5⟩, ⟨[.string x.f6], [.bool x.f7], rfl, rfl, rfl⟩⟩⟩⟩⟩⟩⟩
theorem k33_mkM (w : World) (base : Nat) (ok : Nat → Prop) (x : S33) {v5 : Value} (g5 : k71.R 71 w base ok v5 x.f5) : k33.M w base ok x [.int .i64 x.f0, .int .i64 x.f1, .int .i64 x.f2, .bool x.f3, .string x.f4, v5, .string x.f6, .bool x.f7] := ⟨[.int .i64 x.f0], [.int .i64 x.f1, .int .i64 x.f2, .bool x.f3, .string x.f4, v5, .string x.f6, .bool x.f7], rfl, rfl, ⟨[.int .i64 x.f1], [.int .i64 x.f2, .bool x.f3, .string x.f4, v5, .string x.f6, .bool x.f7], rfl, rfl, ⟨[.int .i64 x.f2], [.bool x.f3, .string x.f4, v5, .string x.f6, .bool x.f7], rfl, rfl, ⟨[.bool x.f3], [.string x.f4, v5, .string x.f6, .bool x.f7], rfl, rfl, ⟨[.string x.f4], [v5, .string x.f6, .bool x.f7], rfl, rfl, ⟨[v5], [.string x.f6, .bool x.f7], rfl, ⟨v5, rfl, g5⟩, ⟨[.string x.f6], [.bool x.f7], rfl, rfl, rfl⟩⟩⟩⟩⟩⟩⟩
theorem k33_openF {W : World} {ok : Nat → Prop} {x : S33} {cs : List Value} (h : Kd.FK k33 W ok x cs) : ∃ A5 c5, cs = [.int .i64 x.f0, .int .i64 x.f1, .int .i64 x.f2, .bool x.f3, .string x.f4, .slice A5 x.f5.length c5, .string x.f6, .bool x.f7] ∧ x.f5.length ≤ c5 ∧ Kd.F k71 W ok A5 x.f5.length x.f5 := by
  obtain ⟨A5, c5, rfl, l5, _⟩ := k33_open (Kd.FK_now h)
  exact ⟨A5, c5, rfl, l5, (fun W' hW => by obtain ⟨A5_, c5_, he, l5_, g5_⟩ := k33_open (h W' hW); injection (Option.some.inj (show some (Value.slice A5 x.f5.length c5) = some (Value.slice A5_ x.f5.length c5_) from congrArg (fun l => l[5]?) he)) with ha_ _ _; rw [ha_]; exact g5_)⟩
theorem k33_mkF (W : World) (ok : Nat → Prop) (x : S33) {A5 : Option Addr} {c5 : Nat} (l5 : x.f5.length ≤ c5) (g5 : Kd.F k71 W ok A5 x.f5.length x.f5) : Kd.FK k33 W ok x [.int .i64 x.f0, .int .i64 x.f1, .int .i64 x.f2, .bool x.f3, .string x.f4, .slice A5 x.f5.length c5, .string x.f6, .bool x.f7] := fun W2 hW => k33_mk W2 x l5 (g5 W2 hW)
def rd_T33 (xs : List S33) (i : Int) : S33 := xs.getD i.toNat z33
theorem at_T33 {w : World} {A : Option Addr} {n : Nat} {xs : List S33} (h : Kd.C k33 w A n xs) (i : Int) (h0 : 0 ≤ i) (h1 : i < n) : ∃ ad A5 c5, A = some ad ∧ w.cell? (ad.add (i.toNat * 8)) = some (.int .i64 (rd_T33 xs i).f0) ∧ w.cell? ⟨(ad.add (i.toNat * 8)).block, (ad.add (i.toNat * 8)).off + 1, none⟩ = some (.int .i64 (rd_T33 xs i).f1) ∧ w.cell? ⟨(ad.add (i.toNat * 8)).block, (ad.add (i.toNat * 8)).off + 2, none⟩ = some (.int .i64 (rd_T33 xs i).f2) ∧ w.cell? ⟨(ad.add (i.toNat * 8)).block, (ad.add (i.toNat * 8)).off + 3, none⟩ = some (.bool (rd_T33 xs i).f3) ∧ w.cell? ⟨(ad.add (i.toNat * 8)).block, (ad.add (i.toNat * 8)).off + 4, none⟩ = some (.string (rd_T33 xs i).f4) ∧ w.cell? ⟨(ad.add (i.toNat * 8)).block, (ad.add (i.toNat * 8)).off + 5, none⟩ = some (.slice A5 (rd_T33 xs i).f5.length c5) ∧ w.cell? ⟨(ad.add (i.toNat * 8)).block, (ad.add (i.toNat * 8)).off + 6, none⟩ = some (.string (rd_T33 xs i).f6) ∧ w.cell? ⟨(ad.add (i.toNat * 8)).block, (ad.add (i.toNat * 8)).off + 7, none⟩ = some (.bool (rd_T33 xs i).f7) ∧ (rd_T33 xs i).f5.length ≤ c5 ∧ k71.C w A5 (rd_T33 xs i).f5.length (rd_T33 xs i).f5 := by
  obtain ⟨ad, c, e, _, hK, hc0⟩ := Kd.C_get h z33 i h0 h1
  have hc : ∀ j u, c[j]? = some u → w.cell? (ad.add (i.toNat * 8 + j)) = some u := hc0
  obtain ⟨A5, c5, rfl, l5, g5⟩ := k33_open hK
  exact ⟨ad, A5, c5, e, hc 0 _ rfl, by rw [← add_field _ _ 1 (by omega)]; exact hc 1 _ rfl, by rw [← add_field _ _ 2 (by omega)]; exact hc 2 _ rfl, by rw [← add_field _ _ 3 (by omega)]; exact hc 3 _ rfl, by rw [← add_field _ _ 4 (by omega)]; exact hc 4 _ rfl, by rw [← add_field _ _ 5 (by omega)]; exact hc 5 _ rfl, by rw [← add_field _ _ 6 (by omega)]; exact hc 6 _ rfl, by rw [← add_field _ _ 7 (by omega)]; exact hc 7 _ rfl, l5, g5⟩

/-! #### struct type 47 -/
structure S47 where
  f0 : Int
  f1 : S33
def z47 : S47 := ⟨(0 : Int), z33⟩
def k47 : Kd S47 := Kd.iso (Kd.pair (Kd.int .i64) k33) (fun x : S47 => (x.f0, x.f1))
theorem k47_open {w : World} {x : S47} {cs : List Value} (h : k47.K w x cs) : ∃ A6 c6, cs = [.int .i64 x.f0, .int .i64 x.f1.f0, .int .i64 x.f1.f1, .int .i64 x.f1.f2, .bool x.f1.f3, .string x.f1.f4, .slice A6 x.f1.f5.length c6, .string x.f1.f6, .bool x.f1.f7] ∧ x.f1.f5.length ≤ c6 ∧ k71.C w A6 x.f1.f5.length x.f1.f5 := by
  obtain ⟨_, _, rfl, rfl, s1⟩ := h
  obtain ⟨A6, c6, rfl, l6, g6⟩ := k33_open s1
  exact ⟨A6, c6, rfl, l6, g6⟩
theorem k47_openM {w : World} {base : Nat} {ok : Nat → Prop} {x : S47} {cs : List Value} (h : k47.M w base ok x cs) : ∃ v6, cs = [.int .i64 x.f0, .int .i64 x.f1.f0, .int .i64 x.f1.f1, .int .i64 x.f1.f2, .bool x.f1.f3, .string x.f1.f4, v6, .string x.f1.f6, .bool x.f1.f7] ∧ k71.R 71 w base ok v6 x.f1.f5 := by
  obtain ⟨_, _, rfl, rfl, s1⟩ := h
  obtain ⟨v6, rfl, g6⟩ := k33_openM s1
  exact ⟨v6, rfl, g6⟩
theorem k47_mk (w : World) (x : S47) {A6 : Option Addr} {c6 : Nat} (l6 : x.f1.f5.length ≤ c6) (g6 : k71.C w A6 x.f1.f5.length x.f1.f5) : k47.K w x [.int .i64 x.f0, .int .i64 x.f1.f0, .int .i64 x.f1.f1, .int .i64 x.f1.f2, .bool x.f1.f3, .string x.f1.f4, .slice A6 x.f1.f5.length c6, .string x.f1.f6, .bool x.f1.f7] := ⟨[.int .i64 x.f0], [.int .i64 x.f1.f0, .int .i64 x.f1.f1, .int .i64 x.f1.f2, .bool x.f1.f3, .string x.f1.f4, .slice A6 x.f1.f5.length c6, .string x.f1.f6, .bool x.f1.f7], rfl, rfl, (k33_mk w x.f1 l6 g6)⟩
theorem k47_mkM (w : World) (base : Nat) (ok : Nat → Prop) (x : S47) {v6 : Value} (g6 : k71.R 71 w base ok v6 x.f1.f5) : k47.M w base ok x [.int .i64 x.f0, .int .i64 x.f1.f0, .int .i64 x.f1.f1, .int .i64 x.f1.f2, .bool x.f1.f3, .string x.f1.f4, v6, .string x.f1.f6, .bool x.f1.f7] := ⟨[.int .i64 x.f0], [.int .i64 x.f1.f0, .int .i64 x.f1.f1, .int .i64 x.f1.f2, .bool x.f1.f3, .string x.f1.f4, v6, .string x.f1.f6, .bool x.f1.f7], rfl, rfl, (k33_mkM w base ok x.f1 g6)⟩
theorem k47_openF {W : World} {ok : Nat → Prop} {x : S47} {cs : List Value} (h : Kd.FK k47 W ok x cs) : ∃ A6 c6, cs = [.int .i64 x.f0, .int .i64 x.f1.f0, .int .i64 x.f1.f1, .int .i64 x.f1.f2, .bool x.f1.f3, .string x.f1.f4, .slice A6 x.f1.f5.length c6, .string x.f1.f6, .bool x.f1.f7] ∧ x.f1.f5.length ≤ c6 ∧ Kd.F k71 W ok A6 x.f1.f5.length x.f1.f5 := by
  obtain ⟨A6, c6, rfl, l6, _⟩ := k47_open (Kd.FK_now h)
  exact ⟨A6, c6, rfl, l6, (fun W' hW => by obtain ⟨A6_, c6_, he, l6_, g6_⟩ := k47_open (h W' hW); injection (Option.some.inj (show some (Value.slice A6 x.f1.f5.length c6) = some (Value.slice A6_ x.f1.f5.length c6_) from congrArg (fun l => l[6]?) he)) with ha_ _ _; rw [ha_]; exact g6_)⟩
theorem k47_mkF (W : World) (ok : Nat → Prop) (x : S47) {A6 : Option Addr} {c6 : Nat} (l6 : x.f1.f5.length ≤ c6) (g6 : Kd.F k71 W ok A6 x.f1.f5.length x.f1.f5) : Kd.FK k47 W ok x [.int .i64 x.f0, .int .i64 x.f1.f0, .int .i64 x.f1.f1, .int .i64 x.f1.f2, .bool x.f1.f3, .string x.f1.f4, .slice A6 x.f1.f5.length c6, .string x.f1.f6, .bool x.f1.f7] := fun W2 hW => k47_mk W2 x l6 (g6 W2 hW)
def rd_T47 (xs : List S47) (i : Int) : S47 := xs.getD i.toNat z47
theorem at_T47 {w : World} {A : Option Addr} {n : Nat} {xs : List S47} (h : Kd.C k47 w A n xs) (i : Int) (h0 : 0 ≤ i) (h1 : i < n) : ∃ ad A6 c6, A = some ad ∧ w.cell? (ad.add (i.toNat * 9)) = some (.int .i64 (rd_T47 xs i).f0) ∧ w.cell? ⟨(ad.add (i.toNat * 9)).block, (ad.add (i.toNat * 9)).off + 1, none⟩ = some (.int .i64 (rd_T47 xs i).f1.f0) ∧ w.cell? ⟨(ad.add (i.toNat * 9)).block, (ad.add (i.toNat * 9)).off + 2, none⟩ = some (.int .i64 (rd_T47 xs i).f1.f1) ∧ w.cell? ⟨(ad.add (i.toNat * 9)).block, (ad.add (i.toNat * 9)).off + 3, none⟩ = some (.int .i64 (rd_T47 xs i).f1.f2) ∧ w.cell? ⟨(ad.add (i.toNat * 9)).block, (ad.add (i.toNat * 9)).off + 4, none⟩ = some (.bool (rd_T47 xs i).f1.f3) ∧ w.cell? ⟨(ad.add (i.toNat * 9)).block, (ad.add (i.toNat * 9)).off + 5, none⟩ = some (.string (rd_T47 xs i).f1.f4) ∧ w.cell? ⟨(ad.add (i.toNat * 9)).block, (ad.add (i.toNat * 9)).off + 6, none⟩ = some (.slice A6 (rd_T47 xs i).f1.f5.length c6) ∧ w.cell? ⟨(ad.add (i.toNat * 9)).block, (ad.add (i.toNat * 9)).off + 7, none⟩ = some (.string (rd_T47 xs i).f1.f6) ∧ w.cell? ⟨(ad.add (i.toNat * 9)).block, (ad.add (i.toNat * 9)).off + 8, none⟩ = some (.bool (rd_T47 xs i).f1.f7) ∧ (rd_T47 xs i).f1.f5.length ≤ c6 ∧ k71.C w A6 (rd_T47 xs i).f1.f5.length (rd_T47 xs i).f1.f5 := by
  obtain ⟨ad, c, e, _, hK, hc0⟩ := Kd.C_get h z47 i h0 h1
  have hc : ∀ j u, c[j]? = some u → w.cell? (ad.add (i.toNat * 9 + j)) = some u := hc0
  obtain ⟨A6, c6, rfl, l6, g6⟩ := k47_open hK
  exact ⟨ad, A6, c6, e, hc 0 _ rfl, by rw [← add_field _ _ 1 (by omega)]; exact hc 1 _ rfl, by rw [← add_field _ _ 2 (by omega)]; exact hc 2 _ rfl, by rw [← add_field _ _ 3 (by omega)]; exact hc 3 _ rfl, by rw [← add_field _ _ 4 (by omega)]; exact hc 4 _ rfl, by rw [← add_field _ _ 5 (by omega)]; exact hc 5 _ rfl, by rw [← add_field _ _ 6 (by omega)]; exact hc 6 _ rfl, by rw [← add_field _ _ 7 (by omega)]; exact hc 7 _ rfl, by rw [← add_field _ _ 8 (by omega)]; exact hc 8 _ rfl, l6, g6⟩

/-! #### struct type 39 -/
structure S39 where
  f0 : Int
  f1 : S33
def z39 : S39 := ⟨(0 : Int), z33⟩
def k39 : Kd S39 := Kd.iso (Kd.pair (Kd.int .i64) k33) (fun x : S39 => (x.f0, x.f1))
theorem k39_open {w : World} {x : S39} {cs : List Value} (h : k39.K w x cs) : ∃ A6 c6, cs = [.int .i64 x.f0, .int .i64 x.f1.f0, .int .i64 x.f1.f1, .int .i64 x.f1.f2, .bool x.f1.f3, .string x.f1.f4, .slice A6 x.f1.f5.length c6, .string x.f1.f6, .bool x.f1.f7] ∧ x.f1.f5.length ≤ c6 ∧ k71.C w A6 x.f1.f5.length x.f1.f5 := by
  obtain ⟨_, _, rfl, rfl, s1⟩ := h
  obtain ⟨A6, c6, rfl, l6, g6⟩ := k33_open s1
  exact ⟨A6, c6, rfl, l6, g6⟩
theorem k39_openM {w : World} {base : Nat} {ok : Nat → Prop} {x : S39} {cs : List Value} (h : k39.M w base ok x cs) : ∃ v6, cs = [.int .i64 x.f0, .int .i64 x.f1.f0, .int .i64 x.f1.f1, .int .i64 x.f1.f2, .bool x.f1.f3, .string x.f1.f4, v6, .string x.f1.f6, .bool x.f1.f7] ∧ k71.R 71 w base ok v6 x.f1.f5 := by
  obtain ⟨_, _, rfl, rfl, s1⟩ := h
  obtain ⟨v6, rfl, g6⟩ := k33_openM s1
  exact ⟨v6, rfl, g6⟩
theorem k39_mk (w : World) (x : S39) {A6 : Option Addr} {c6 : Nat} (l6 : x.f1.f5.length ≤ c6) (g6 : k71.C w A6 x.f1.f5.length x.f1.f5) : k39.K w x [.int .i64 x.f0, .int .i64 x.f1.f0, .int .i64 x.f1.f1, .int .i64 x.f1.f2, .bool x.f1.f3, .string x.f1.f4, .slice A6 x.f1.f5.length c6, .string x.f1.f6, .bool x.f1.f7] := ⟨[.int .i64 x.f0], [.int .i64 x.f1.f0, .int .i64 x.f1.f1, .int .i64 x.f1.f2, .bool x.f1.f3, .string x.f1.f4, .slice A6 x.f1.f5.length c6, .string x.f1.f6, .bool x.f1.f7], rfl, rfl, (k33_mk w x.f1 l6 g6)⟩
theorem k39_mkM (w : World) (base : Nat) (ok : Nat → Prop) (x : S39) {v6 : Value} (g6 : k71.R 71 w base ok v6 x.f1.f5) : k39.M w base ok x [.int .i64 x.f0, .int .i64 x.f1.f0, .int .i64 x.f1.f1, .int .i64 x.f1.f2, .bool x.f1.f3, .string x.f1.f4, v6, .string x.f1.f6, .bool x.f1.f7] := ⟨[.int .i64 x.f0], [.int .i64 x.f1.f0, .int .i64 x.f1.f1, .int .i64 x.f1.f2, .bool x.f1.f3, .string x.f1.f4, v6, .string x.f1.f6, .bool x.f1.f7], rfl, rfl, (k33_mkM w base ok x.f1 g6)⟩
theorem k39_openF {W : World} {ok : Nat → Prop} {x : S39} {cs : List Value} (h : Kd.FK k39 W ok x cs) : ∃ A6 c6, cs = [.int .i64 x.f0, .int .i64 x.f1.f0, .int .i64 x.f1.f1, .int .i64 x.f1.f2, .bool x.f1.f3, .string x.f1.f4, .slice A6 x.f1.f5.length c6, .string x.f1.f6, .bool x.f1.f7] ∧ x.f1.f5.length ≤ c6 ∧ Kd.F k71 W ok A6 x.f1.f5.length x.f1.f5 := by
  obtain ⟨A6, c6, rfl, l6, _⟩ := k39_open (Kd.FK_now h)
  exact ⟨A6, c6, rfl, l6, (fun W' hW => by obtain ⟨A6_, c6_, he, l6_, g6_⟩ := k39_open (h W' hW); injection (Option.some.inj (show some (Value.slice A6 x.f1.f5.length c6) = some (Value.slice A6_ x.f1.f5.length c6_) from congrArg (fun l => l[6]?) he)) with ha_ _ _; rw [ha_]; exact g6_)⟩
theorem k39_mkF (W : World) (ok : Nat → Prop) (x : S39) {A6 : Option Addr} {c6 : Nat} (l6 : x.f1.f5.length ≤ c6) (g6 : Kd.F k71 W ok A6 x.f1.f5.length x.f1.f5) : Kd.FK k39 W ok x [.int .i64 x.f0, .int .i64 x.f1.f0, .int .i64 x.f1.f1, .int .i64 x.f1.f2, .bool x.f1.f3, .string x.f1.f4, .slice A6 x.f1.f5.length c6, .string x.f1.f6, .bool x.f1.f7] := fun W2 hW => k39_mk W2 x l6 (g6 W2 hW)
def rd_T39 (xs : List S39) (i : Int) : S39 := xs.getD i.toNat z39
theorem at_T39 {w : World} {A : Option Addr} {n : Nat} {xs : List S39} (h : Kd.C k39 w A n xs) (i : Int) (h0 : 0 ≤ i) (h1 : i < n) : ∃ ad A6 c6, A = some ad ∧ w.cell? (ad.add (i.toNat * 9)) = some (.int .i64 (rd_T39 xs i).f0) ∧ w.cell? ⟨(ad.add (i.toNat * 9)).block, (ad.add (i.toNat * 9)).off + 1, none⟩ = some (.int .i64 (rd_T39 xs i).f1.f0) ∧ w.cell? ⟨(ad.add (i.toNat * 9)).block, (ad.add (i.toNat * 9)).off + 2, none⟩ = some (.int .i64 (rd_T39 xs i).f1.f1) ∧ w.cell? ⟨(ad.add (i.toNat * 9)).block, (ad.add (i.toNat * 9)).off + 3, none⟩ = some (.int .i64 (rd_T39 xs i).f1.f2) ∧ w.cell? ⟨(ad.add (i.toNat * 9)).block, (ad.add (i.toNat * 9)).off + 4, none⟩ = some (.bool (rd_T39 xs i).f1.f3) ∧ w.cell? ⟨(ad.add (i.toNat * 9)).block, (ad.add (i.toNat * 9)).off + 5, none⟩ = some (.string (rd_T39 xs i).f1.f4) ∧ w.cell? ⟨(ad.add (i.toNat * 9)).block, (ad.add (i.toNat * 9)).off + 6, none⟩ = some (.slice A6 (rd_T39 xs i).f1.f5.length c6) ∧ w.cell? ⟨(ad.add (i.toNat * 9)).block, (ad.add (i.toNat * 9)).off + 7, none⟩ = some (.string (rd_T39 xs i).f1.f6) ∧ w.cell? ⟨(ad.add (i.toNat * 9)).block, (ad.add (i.toNat * 9)).off + 8, none⟩ = some (.bool (rd_T39 xs i).f1.f7) ∧ (rd_T39 xs i).f1.f5.length ≤ c6 ∧ k71.C w A6 (rd_T39 xs i).f1.f5.length (rd_T39 xs i).f1.f5 := by
  obtain ⟨ad, c, e, _, hK, hc0⟩ := Kd.C_get h z39 i h0 h1
  have hc : ∀ j u, c[j]? = some u → w.cell? (ad.add (i.toNat * 9 + j)) = some u := hc0
  obtain ⟨A6, c6, rfl, l6, g6⟩ := k39_open hK
  exact ⟨ad, A6, c6, e, hc 0 _ rfl, by rw [← add_field _ _ 1 (by omega)]; exact hc 1 _ rfl, by rw [← add_field _ _ 2 (by omega)]; exact hc 2 _ rfl, by rw [← add_field _ _ 3 (by omega)]; exact hc 3 _ rfl, by rw [← add_field _ _ 4 (by omega)]; exact hc 4 _ rfl, by rw [← add_field _ _ 5 (by omega)]; exact hc 5 _ rfl, by rw [← add_field _ _ 6 (by omega)]; exact hc 6 _ rfl, by rw [← add_field _ _ 7 (by omega)]; exact hc 7 _ rfl, by rw [← add_field _ _ 8 (by omega)]; exact hc 8 _ rfl, l6, g6⟩
theorem info71 : (Try.prog.info? 71).map (fun i => (i.zero, i.size, i.bytes)) = some (some (.agg #[(.string ⟨#[]⟩), (.string ⟨#[]⟩)]), 2, 32) := by kernel_rfl
/-- A reply's value; v5: its records. -/
abbrev repV (x : S33) (v5 : Value) : Value := .agg #[.int .i64 x.f0, .int .i64 x.f1, .int .i64 x.f2, .bool x.f3, .string x.f4, v5, .string x.f6, .bool x.f7]
/-- Eight cells that are written one behind the other. -/
abbrev set8 (w : World) (g : Nat) (v0 v1 v2 v3 v4 v5 v6 v7 : Value) : World := ((((((((w.setCell ⟨g, 0, none⟩ v0).setCell ⟨g, 1, none⟩ v1).setCell ⟨g, 2, none⟩ v2).setCell ⟨g, 3, none⟩ v3).setCell ⟨g, 4, none⟩ v4).setCell ⟨g, 5, none⟩ v5).setCell ⟨g, 6, none⟩ v6).setCell ⟨g, 7, none⟩ v7)
theorem st8 {w : World} {g t : Nat} {o0 o1 o2 o3 o4 o5 o6 o7 : Value} (h : w.heap[g]? = some (.cells #[o0, o1, o2, o3, o4, o5, o6, o7] t (0, 0))) (v0 v1 v2 v3 v4 v5 v6 v7 : Value) :
    (w.cell? ⟨g, 0, none⟩ = some o0 ∧ w.frozen? ⟨g, 0, none⟩ = false ∧ (w.setCell ⟨g, 0, none⟩ v0).cell? ⟨g, 1, none⟩ = some o1 ∧ (w.setCell ⟨g, 0, none⟩ v0).frozen? ⟨g, 1, none⟩ = false ∧ ((w.setCell ⟨g, 0, none⟩ v0).setCell ⟨g, 1, none⟩ v1).cell? ⟨g, 2, none⟩ = some o2 ∧ ((w.setCell ⟨g, 0, none⟩ v0).setCell ⟨g, 1, none⟩ v1).frozen? ⟨g, 2, none⟩ = false ∧ (((w.setCell ⟨g, 0, none⟩ v0).setCell ⟨g, 1, none⟩ v1).setCell ⟨g, 2, none⟩ v2).cell? ⟨g, 3, none⟩ = some o3 ∧ (((w.setCell ⟨g, 0, none⟩ v0).setCell ⟨g, 1, none⟩ v1).setCell ⟨g, 2, none⟩ v2).frozen? ⟨g, 3, none⟩ = false ∧ ((((w.setCell ⟨g, 0, none⟩ v0).setCell ⟨g, 1, none⟩ v1).setCell ⟨g, 2, none⟩ v2).setCell ⟨g, 3, none⟩ v3).cell? ⟨g, 4, none⟩ = some o4 ∧ ((((w.setCell ⟨g, 0, none⟩ v0).setCell ⟨g, 1, none⟩ v1).setCell ⟨g, 2, none⟩ v2).setCell ⟨g, 3, none⟩ v3).frozen? ⟨g, 4, none⟩ = false ∧ (((((w.setCell ⟨g, 0, none⟩ v0).setCell ⟨g, 1, none⟩ v1).setCell ⟨g, 2, none⟩ v2).setCell ⟨g, 3, none⟩ v3).setCell ⟨g, 4, none⟩ v4).cell? ⟨g, 5, none⟩ = some o5 ∧ (((((w.setCell ⟨g, 0, none⟩ v0).setCell ⟨g, 1, none⟩ v1).setCell ⟨g, 2, none⟩ v2).setCell ⟨g, 3, none⟩ v3).setCell ⟨g, 4, none⟩ v4).frozen? ⟨g, 5, none⟩ = false ∧ ((((((w.setCell ⟨g, 0, none⟩ v0).setCell ⟨g, 1, none⟩ v1).setCell ⟨g, 2, none⟩ v2).setCell ⟨g, 3, none⟩ v3).setCell ⟨g, 4, none⟩ v4).setCell ⟨g, 5, none⟩ v5).cell? ⟨g, 6, none⟩ = some o6 ∧ ((((((w.setCell ⟨g, 0, none⟩ v0).setCell ⟨g, 1, none⟩ v1).setCell ⟨g, 2, none⟩ v2).setCell ⟨g, 3, none⟩ v3).setCell ⟨g, 4, none⟩ v4).setCell ⟨g, 5, none⟩ v5).frozen? ⟨g, 6, none⟩ = false ∧ (((((((w.setCell ⟨g, 0, none⟩ v0).setCell ⟨g, 1, none⟩ v1).setCell ⟨g, 2, none⟩ v2).setCell ⟨g, 3, none⟩ v3).setCell ⟨g, 4, none⟩ v4).setCell ⟨g, 5, none⟩ v5).setCell ⟨g, 6, none⟩ v6).cell? ⟨g, 7, none⟩ = some o7 ∧ (((((((w.setCell ⟨g, 0, none⟩ v0).setCell ⟨g, 1, none⟩ v1).setCell ⟨g, 2, none⟩ v2).setCell ⟨g, 3, none⟩ v3).setCell ⟨g, 4, none⟩ v4).setCell ⟨g, 5, none⟩ v5).setCell ⟨g, 6, none⟩ v6).frozen? ⟨g, 7, none⟩ = false) ∧ (set8 w g v0 v1 v2 v3 v4 v5 v6 v7).heap[g]? = some (.cells #[v0, v1, v2, v3, v4, v5, v6, v7] t (0, 0)) ∧ On (· = g) w (set8 w g v0 v1 v2 v3 v4 v5 v6 v7) := by
  have h0 : w.heap[g]? = some (.cells #[o0, o1, o2, o3, o4, o5, o6, o7] t (0, 0)) := h
  have h1 : (w.setCell ⟨g, 0, none⟩ v0).heap[g]? = some (.cells #[v0, o1, o2, o3, o4, o5, o6, o7] t (0, 0)) := (blk_set h0 0 v0).trans rfl
  have h2 : ((w.setCell ⟨g, 0, none⟩ v0).setCell ⟨g, 1, none⟩ v1).heap[g]? = some (.cells #[v0, v1, o2, o3, o4, o5, o6, o7] t (0, 0)) := (blk_set h1 1 v1).trans rfl
  have h3 : (((w.setCell ⟨g, 0, none⟩ v0).setCell ⟨g, 1, none⟩ v1).setCell ⟨g, 2, none⟩ v2).heap[g]? = some (.cells #[v0, v1, v2, o3, o4, o5, o6, o7] t (0, 0)) := (blk_set h2 2 v2).trans rfl
  have h4 : ((((w.setCell ⟨g, 0, none⟩ v0).setCell ⟨g, 1, none⟩ v1).setCell ⟨g, 2, none⟩ v2).setCell ⟨g, 3, none⟩ v3).heap[g]? = some (.cells #[v0, v1, v2, v3, o4, o5, o6, o7] t (0, 0)) := (blk_set h3 3 v3).trans rfl
  have h5 : (((((w.setCell ⟨g, 0, none⟩ v0).setCell ⟨g, 1, none⟩ v1).setCell ⟨g, 2, none⟩ v2).setCell ⟨g, 3, none⟩ v3).setCell ⟨g, 4, none⟩ v4).heap[g]? = some (.cells #[v0, v1, v2, v3, v4, o5, o6, o7] t (0, 0)) := (blk_set h4 4 v4).trans rfl
  have h6 : ((((((w.setCell ⟨g, 0, none⟩ v0).setCell ⟨g, 1, none⟩ v1).setCell ⟨g, 2, none⟩ v2).setCell ⟨g, 3, none⟩ v3).setCell ⟨g, 4, none⟩ v4).setCell ⟨g, 5, none⟩ v5).heap[g]? = some (.cells #[v0, v1, v2, v3, v4, v5, o6, o7] t (0, 0)) := (blk_set h5 5 v5).trans rfl
  have h7 : (((((((w.setCell ⟨g, 0, none⟩ v0).setCell ⟨g, 1, none⟩ v1).setCell ⟨g, 2, none⟩ v2).setCell ⟨g, 3, none⟩ v3).setCell ⟨g, 4, none⟩ v4).setCell ⟨g, 5, none⟩ v5).setCell ⟨g, 6, none⟩ v6).heap[g]? = some (.cells #[v0, v1, v2, v3, v4, v5, v6, o7] t (0, 0)) := (blk_set h6 6 v6).trans rfl
  have h8 : ((((((((w.setCell ⟨g, 0, none⟩ v0).setCell ⟨g, 1, none⟩ v1).setCell ⟨g, 2, none⟩ v2).setCell ⟨g, 3, none⟩ v3).setCell ⟨g, 4, none⟩ v4).setCell ⟨g, 5, none⟩ v5).setCell ⟨g, 6, none⟩ v6).setCell ⟨g, 7, none⟩ v7).heap[g]? = some (.cells #[v0, v1, v2, v3, v4, v5, v6, v7] t (0, 0)) := (blk_set h7 7 v7).trans rfl
  have q0 : On (· = g) w (w.setCell ⟨g, 0, none⟩ v0) := On.set (P := (· = g)) (On.refl _ _) (p := ⟨g, 0, none⟩) (show g = g from rfl) v0
  have q1 : On (· = g) w ((w.setCell ⟨g, 0, none⟩ v0).setCell ⟨g, 1, none⟩ v1) := On.set (P := (· = g)) q0 (p := ⟨g, 1, none⟩) (show g = g from rfl) v1
  have q2 : On (· = g) w (((w.setCell ⟨g, 0, none⟩ v0).setCell ⟨g, 1, none⟩ v1).setCell ⟨g, 2, none⟩ v2) := On.set (P := (· = g)) q1 (p := ⟨g, 2, none⟩) (show g = g from rfl) v2
  have q3 : On (· = g) w ((((w.setCell ⟨g, 0, none⟩ v0).setCell ⟨g, 1, none⟩ v1).setCell ⟨g, 2, none⟩ v2).setCell ⟨g, 3, none⟩ v3) := On.set (P := (· = g)) q2 (p := ⟨g, 3, none⟩) (show g = g from rfl) v3
  have q4 : On (· = g) w (((((w.setCell ⟨g, 0, none⟩ v0).setCell ⟨g, 1, none⟩ v1).setCell ⟨g, 2, none⟩ v2).setCell ⟨g, 3, none⟩ v3).setCell ⟨g, 4, none⟩ v4) := On.set (P := (· = g)) q3 (p := ⟨g, 4, none⟩) (show g = g from rfl) v4
  have q5 : On (· = g) w ((((((w.setCell ⟨g, 0, none⟩ v0).setCell ⟨g, 1, none⟩ v1).setCell ⟨g, 2, none⟩ v2).setCell ⟨g, 3, none⟩ v3).setCell ⟨g, 4, none⟩ v4).setCell ⟨g, 5, none⟩ v5) := On.set (P := (· = g)) q4 (p := ⟨g, 5, none⟩) (show g = g from rfl) v5
  have q6 : On (· = g) w (((((((w.setCell ⟨g, 0, none⟩ v0).setCell ⟨g, 1, none⟩ v1).setCell ⟨g, 2, none⟩ v2).setCell ⟨g, 3, none⟩ v3).setCell ⟨g, 4, none⟩ v4).setCell ⟨g, 5, none⟩ v5).setCell ⟨g, 6, none⟩ v6) := On.set (P := (· = g)) q5 (p := ⟨g, 6, none⟩) (show g = g from rfl) v6
  have q7 : On (· = g) w ((((((((w.setCell ⟨g, 0, none⟩ v0).setCell ⟨g, 1, none⟩ v1).setCell ⟨g, 2, none⟩ v2).setCell ⟨g, 3, none⟩ v3).setCell ⟨g, 4, none⟩ v4).setCell ⟨g, 5, none⟩ v5).setCell ⟨g, 6, none⟩ v6).setCell ⟨g, 7, none⟩ v7) := On.set (P := (· = g)) q6 (p := ⟨g, 7, none⟩) (show g = g from rfl) v7
  exact ⟨⟨(blk_cell h0 0).trans rfl, blk_frozen h0 0, (blk_cell h1 1).trans rfl, blk_frozen h1 1, (blk_cell h2 2).trans rfl, blk_frozen h2 2, (blk_cell h3 3).trans rfl, blk_frozen h3 3, (blk_cell h4 4).trans rfl, blk_frozen h4 4, (blk_cell h5 5).trans rfl, blk_frozen h5 5, (blk_cell h6 6).trans rfl, blk_frozen h6 6, (blk_cell h7 7).trans rfl, blk_frozen h7 7⟩, h8, q7⟩
set_option maxHeartbeats 4000000 in
set_option maxRecDepth 100000 in
theorem clone26 (A0 : Option Addr) (c0 : Nat) (l0 : List S71) (w : World) (hr0 : k71.C w A0 l0.length l0) (hc0 : l0.length ≤ c0) (hl : l0.length ≤ 1000000) :
    Calls Try.prog 26 #[.slice A0 l0.length c0] w fun e w' => ∃ v, e = .returned v ∧ k71.R 71 w' w.heap.size (fun _ => True) v l0 ∧ Below w.heap.size w w' := by
  have he := fun wx => run_eql_row_nil (P := Try.prog) wx 31 _ A0 l0.length c0 Try.underlying31
  cases A0 with
  | none =>
    obtain rfl := C_none hr0
    have he0 : ∀ wx, (binOp .eql 31 (.slice none 0 c0) (.slice none 0 0)).run Try.prog wx = .ok (.bool true) wx := fun wx => he wx
    clear hr0 hc0 hl he
    go_enter Try.func26, Try.ntmps26
    go_wp2
    go_ret
    exact ⟨_, rfl, Kd.R_nil _ _ _ _ _, Below.refl _ _⟩
  | some ad =>
    have HR := Aside0.mk hr0
    have HL := Aside0.mk hl
    clear hr0 hc0 hl
    go_enter Try.func26, Try.ntmps26
    go_wp2_with (first
      | ((with_reducible refine gate_dst (N := 5) rfl ?_); refine Kd.R_lit k71 w.heap.size 71 ?hg (N := 5) ?hd (xs := ([] : List S71)) (inner := []) (ok := fun _ => True) (okp := fun _ => True) ?hr ?hp (fun _ hk => hk) trivial (Below.refl _ _) (Nat.le_refl _) (by simp) ?_; (case hd => rfl); (case hg => rfl); (case hr => first | (go_simp; done) | (go_simp; rfl)); (case hp => exact (Reps.none _ _)); intro v1 w1 ho1 hb1 hg_ hnew_; have HO := Aside0.mk ho1; have HB := Aside0.mk hb1; clear hg_ hnew_ ho1 hb1)
      | ((with_reducible refine gate_builtin (b := .append) (xs := #[.tmp 5, .tmp 6]) rfl ?_); at_builtin; refine Kd.R_append_rows k71 (Rr := Kd.K k71 w1) (w0 := w) w.heap.size rfl (.tmp 5) (.tmp 6) 31 71 (.agg #[(.string ⟨#[]⟩), (.string ⟨#[]⟩)]) 32 rfl Try.underlying31 info71 rfl (by decide) (by omega) v1 [] l0 _ _ _ (fun _ => True) (fun _ => False) rfl rfl ?aO ?aR ?aM (fun _ h => h.elim) (fun _ _ => trivial) ?aB ?aS ?aL ?_; (case aO => exact HO.out); (case aR => exact Kd.C_below HR.out HB.out); (case aM => intro x cs hx; obtain rfl := k71_open hx; exact k71_mkM _ _ _ _); (case aB => exact HB.out); (case aS => exact below_size HB.out); (case aL => have := HL.out; simp; omega); intro v2 w2 ho2 hb2 hg2 hat2; have HO2 := Aside0.mk ho2; have HB2 := Aside0.mk hb2; clear ho2 hb2 hg2 hat2))
    go_ret
    exact ⟨_, rfl, HO2.out, HB2.out⟩
set_option maxHeartbeats 4000000 in
set_option maxRecDepth 100000 in
theorem copied19 (x : S33) (A : Option Addr) (c : Nat) (w : World) (hC : k71.C w A x.f5.length x.f5) (hc : x.f5.length ≤ c) (hl : x.f5.length ≤ 1000000) :
    Calls Try.prog 19 #[repV x (.slice A x.f5.length c)] w fun e w' => ∃ v5, e = .returned (repV x v5) ∧ k71.R 71 w' w.heap.size (fun _ => True) v5 x.f5 ∧ Below w.heap.size w w' := by
  have HC := Aside0.mk hC
  have HL := Aside0.mk (And.intro hc hl)
  clear hC hc hl
  go_enter Try.func19, Try.ntmps19
  go_wp2_with fail
  refine (clone26 A c x.f5 _ (Kd.C_alloc (Kd.C_alloc HC.out _) _) HL.out.1 HL.out.2).mono ?_
  rintro e w1 ⟨v5, rfl, hR, hb⟩
  obtain ⟨A5, c5, rfl⟩ := Kd.R_slice hR
  have b0 := blk_below (blk_alloc (blk_new w (.cells #[.int .i64 x.f0, .int .i64 x.f1, .int .i64 x.f2, .bool x.f3, .string x.f4, .slice A x.f5.length c, .string x.f6, .bool x.f7] 33)) _) hb
  have b1 := blk_below (blk_new (w.alloc (.cells #[.int .i64 x.f0, .int .i64 x.f1, .int .i64 x.f2, .bool x.f3, .string x.f4, .slice A x.f5.length c, .string x.f6, .bool x.f7] 33)) (.cells #[.int .i64 0, .int .i64 0, .int .i64 0, .bool false, .string ⟨#[]⟩, .slice none 0 0, .string ⟨#[]⟩, .bool false] 33)) hb
  have hsz : (w.alloc (.cells #[.int .i64 x.f0, .int .i64 x.f1, .int .i64 x.f2, .bool x.f3, .string x.f4, .slice A x.f5.length c, .string x.f6, .bool x.f7] 33)).heap.size = w.heap.size + 1 := Array.size_push _
  rw [hsz] at b1
  obtain ⟨g0, hg0⟩ : ∃ g, g = w.heap.size := ⟨_, rfl⟩
  obtain ⟨g1, hg1⟩ : ∃ g, g = w.heap.size + 1 := ⟨_, rfl⟩
  rw [← hg1] at b1
  rw [← hg0] at b0
  rw [← hg1, ← hg0]
  have hne : g0 ≠ g1 := by omega
  have e5 : w1.cell? ⟨g0, 5, none⟩ = some (.slice A x.f5.length c) := (blk_cell b0 5).trans rfl
  have f5 := blk_frozen b0 5
  have b2 : (w1.setCell ⟨g0, 5, none⟩ (.slice A5 x.f5.length c5)).heap[g0]? = some (.cells #[.int .i64 x.f0, .int .i64 x.f1, .int .i64 x.f2, .bool x.f3, .string x.f4, (.slice A5 x.f5.length c5), .string x.f6, .bool x.f7] 33 (0, 0)) := (blk_set b0 5 (.slice A5 x.f5.length c5)).trans rfl
  have b3 : (w1.setCell ⟨g0, 5, none⟩ (.slice A5 x.f5.length c5)).heap[g1]? = some (.cells #[.int .i64 0, .int .i64 0, .int .i64 0, .bool false, .string ⟨#[]⟩, .slice none 0 0, .string ⟨#[]⟩, .bool false] 33 (0, 0)) := blk_far b1 (p := ⟨g0, 5, none⟩) (fun e => hne e.symm) (.slice A5 x.f5.length c5)
  have d0 : (w1.setCell ⟨g0, 5, none⟩ (.slice A5 x.f5.length c5)).cell? ⟨g0, 0, none⟩ = some (.int .i64 x.f0) := (blk_cell b2 0).trans rfl
  have d1 : (w1.setCell ⟨g0, 5, none⟩ (.slice A5 x.f5.length c5)).cell? ⟨g0, 1, none⟩ = some (.int .i64 x.f1) := (blk_cell b2 1).trans rfl
  have d2 : (w1.setCell ⟨g0, 5, none⟩ (.slice A5 x.f5.length c5)).cell? ⟨g0, 2, none⟩ = some (.int .i64 x.f2) := (blk_cell b2 2).trans rfl
  have d3 : (w1.setCell ⟨g0, 5, none⟩ (.slice A5 x.f5.length c5)).cell? ⟨g0, 3, none⟩ = some (.bool x.f3) := (blk_cell b2 3).trans rfl
  have d4 : (w1.setCell ⟨g0, 5, none⟩ (.slice A5 x.f5.length c5)).cell? ⟨g0, 4, none⟩ = some (.string x.f4) := (blk_cell b2 4).trans rfl
  have d5 : (w1.setCell ⟨g0, 5, none⟩ (.slice A5 x.f5.length c5)).cell? ⟨g0, 5, none⟩ = some (.slice A5 x.f5.length c5) := (blk_cell b2 5).trans rfl
  have d6 : (w1.setCell ⟨g0, 5, none⟩ (.slice A5 x.f5.length c5)).cell? ⟨g0, 6, none⟩ = some (.string x.f6) := (blk_cell b2 6).trans rfl
  have d7 : (w1.setCell ⟨g0, 5, none⟩ (.slice A5 x.f5.length c5)).cell? ⟨g0, 7, none⟩ = some (.bool x.f7) := (blk_cell b2 7).trans rfl
  obtain ⟨⟨x0, y0, x1, y1, x2, y2, x3, y3, x4, y4, x5, y5, x6, y6, x7, y7⟩, b4, ho⟩ := st8 b3 (.int .i64 x.f0) (.int .i64 x.f1) (.int .i64 x.f2) (.bool x.f3) (.string x.f4) (.slice A5 x.f5.length c5) (.string x.f6) (.bool x.f7)
  have B4 := Aside0.mk (And.intro b4 ho)
  have HX := Aside0.mk (And.intro hg0 (And.intro hg1 (And.intro hR hb)))
  clear hg0 hg1 hR hb hsz b4 ho
  go_wp2_with fail
  refine bodyPost_ret (results_single rfl (.cell g1 33 _ (0, 0) _ rfl B4.out.1 Try.underlying33 rfl (by kernel_rfl) .nil)) rfl ?_
  obtain ⟨hg0, hg1, hR, hb⟩ := HX.out
  have hq : On (fun k => k = g0 ∨ k = g1) w1 _ := ((On.refl _ w1).set (P := fun k => k = g0 ∨ k = g1) (p := ⟨g0, 5, none⟩) (.inl rfl) (.slice A5 x.f5.length c5)).trans (B4.out.2.mono (fun k hk => .inr hk))
  have hb1 : Below w.heap.size w w1 := below_step (below_alloc (below_alloc (Below.refl _ _) _) _) hb
  have hsz : ∀ o1 o2 : Obj, ((w.alloc o1).alloc o2).heap.size = w.heap.size + 2 := fun o1 o2 => by rw [show ((w.alloc o1).alloc o2).heap.size = (w.alloc o1).heap.size + 1 from Array.size_push _, show (w.alloc o1).heap.size = w.heap.size + 1 from Array.size_push _]
  have hR2 := Kd.R_bound hR
  rw [hsz] at hR2
  refine ⟨_, rfl, Kd.R_mono (Kd.R_lower (Kd.R_step hR2 (fun k hk hlt => hq.block k hlt (by omega))) (by omega)) (fun _ _ => trivial), hb1.trans (hq.to_below hb1.size (fun k hk => by omega))⟩
end Go.Proofs.YtdeepnpbibhfiaaW.PrintOnce
