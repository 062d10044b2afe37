/- A drawn region by an invariant, in few words: the operations that only read are one row each. No condition. -/
import Derived.Test.YtdeepnpbibhfiaaWReg
import Derived.Test.YtdeepnpbibhfiaaWMan
namespace Go.Proofs.YtdeepnpbibhfiaaW.PrintReg
open Go Go.RowKit Go.Proofs.YtdeepnpbibhfiaaW.PrintWords Go.Proofs.YtdeepnpbibhfiaaW.PrintMore
theorem wantd {c : Bool} {A B : Prop} (hc : c = true) (h : A) : if c = true then A else B := by subst hc; simpa using h
/-- Slots told by a list. -/
def zz : List (Nat × Value) → Nat → Value
  | [], _ => undef
  | (s, v) :: l, t => if t = s then v else zz l t
/-- The act of these slots. -/
def FA (F : (Nat → Value) → List Value) (z : Nat → Value) : Act := { tmps := (F z).toArray, defers := [] }
def chk (l : List (Nat × Nat × Value)) (j k s : Nat) : Bool := (l.take j).all (fun e => !(e.1 == k) && !(e.2.1 == s)) && (l.drop (j + 1)).all (fun e => !(e.1 == k) && !(e.2.1 == s))
theorem sm1 {z : Nat → Value} {s1 : Nat} {v1 : Value} (e1 : z s1 = v1) : put1 z s1 v1 = z := by
  funext t; unfold put1; split
  · rename_i ht; rw [ht]; exact e1.symm
  · rfl
theorem sm2 {z : Nat → Value} {s1 s2 : Nat} {v1 v2 : Value} (e1 : z s1 = v1) (e2 : z s2 = v2) : put1 (put1 z s1 v1) s2 v2 = z := by rw [sm1 e1, sm1 e2]
theorem sm3 {z : Nat → Value} {s1 s2 s3 : Nat} {v1 v2 v3 : Value} (e1 : z s1 = v1) (e2 : z s2 = v2) (e3 : z s3 = v3) : put1 (put1 (put1 z s1 v1) s2 v2) s3 v3 = z := by rw [sm2 e1 e2, sm1 e3]
theorem sm4 {z : Nat → Value} {s1 s2 s3 s4 : Nat} {v1 v2 v3 v4 : Value} (e1 : z s1 = v1) (e2 : z s2 = v2) (e3 : z s3 = v3) (e4 : z s4 = v4) : put1 (put1 (put1 (put1 z s1 v1) s2 v2) s3 v3) s4 v4 = z := by rw [sm3 e1 e2 e3, sm1 e4]
theorem sm5 {z : Nat → Value} {s1 s2 s3 s4 s5 : Nat} {v1 v2 v3 v4 v5 : Value} (e1 : z s1 = v1) (e2 : z s2 = v2) (e3 : z s3 = v3) (e4 : z s4 = v4) (e5 : z s5 = v5) : put1 (put1 (put1 (put1 (put1 z s1 v1) s2 v2) s3 v3) s4 v4) s5 v5 = z := by rw [sm4 e1 e2 e3 e4, sm1 e5]
section
variable {P : Program} {ops : Array Oper} {Q : Exit → Act → World → Prop} {G : Type} {F : (Nat → Value) → List Value} {T : G → List (Nat × Nat × Value)} {R : (Nat → Bool) → G → (Nat → Value) → World → Prop}
/-- The slots, the letters and what is told of them. -/
def Inv (F : (Nat → Value) → List Value) (T : G → List (Nat × Nat × Value)) (R : (Nat → Bool) → G → (Nat → Value) → World → Prop) : (Nat → Bool) → Act → World → Prop :=
  fun LL a wx => ∃ g z, a = FA F z ∧ Tab LL z (T g) ∧ Aside0 (R LL g z wx)
theorem wp_reg {l : List Oper} {id : Nat} {a : Act} {w : World} (n : Nat) (hn : l.length = n) (hm : P.follows .mixedOrders = true) (hb : backB l.toArray = true) (F : (Nat → Value) → List Value) (T : G → List (Nat × Nat × Value)) (R : (Nat → Bool) → G → (Nat → Value) → World → Prop)
    (g0 : G) (z0 : Nat → Value) (ha : a = FA F z0) (ht : ((T g0).all fun e => Nat.blt e.1 n) = true) (h0 : R (fun i => decide (n ≤ i)) g0 z0 w.drew) (hs : Steps P l.toArray Q (Inv F T R) 0 l)
    (hd : ∀ LL g z wx, (∀ i, i < n → LL i = true) → Tab LL z (T g) → Aside0 (R LL g z wx) → Q .normal (FA F z) wx) : (Code.region id l.toArray true).wp P Q a w :=
  wp_region_steps n hn hm hb (Inv F T R) ⟨g0, z0, ha, Tab.start n rfl ht, ⟨h0⟩⟩ hs (fun L a w hall hI => by
    obtain ⟨g, z, rfl, hT, hR⟩ := hI
    exact hd L g z w hall hT hR)
variable {k : Nat} {o : Oper}
/-- Any operation with a slot. -/
theorem CD (j : Nat) {s : Nat} {v : G → Value} (hT : ∀ g, (T g)[j]? = some (k, s, v g)) (hc : ∀ g, chk (T g) j k s = true)
    (h : ∀ LL g z wx, Aside0 (R LL g z wx) → LL k = false → (∀ i, (o.after.toList.any fun e => e.on == i && Region.binds .any e) = true → LL i = true) → Tab LL z (T g) → ∀ K : Act → World → Prop,
      (∀ g' z' wx', z' = z → (T g').take j = (T g).take j → (T g').drop (j + 1) = (T g).drop (j + 1) → R (upd LL k) g' (put1 z s (v g')) wx' → K (FA F (put1 z' s (v g'))) wx') →
      if Region.wanted o (yielded ops (FA F z).tmps) = true then Oper.wp P o (FA F z) wx K Q else K ((FA F z).put o.dst undef) wx) : Step P ops Q (Inv F T R) k o := by
  intro L a w hI hk hd K' hK'
  obtain ⟨g, z, rfl, hT', hR'⟩ := hI
  refine h L g z w hR' hk hd hT' K' (fun g' z' wx' hz h1 h2 hr => ?_)
  subst hz
  exact hK'.out _ _ ⟨g', _, rfl, hT'.upd j (hT g') (hc g') h1.symm h2.symm, ⟨hr⟩⟩
/-- Any operation without one. -/
theorem CS (hc : ∀ g, ((T g).all fun e => !(e.1 == k)) = true)
    (h : ∀ LL g z wx, Aside0 (R LL g z wx) → LL k = false → (∀ i, (o.after.toList.any fun e => e.on == i && Region.binds .any e) = true → LL i = true) → Tab LL z (T g) → ∀ K : Act → World → Prop,
      (∀ z' wx', z' = z → R (upd LL k) g z wx' → K (FA F z') wx') →
      if Region.wanted o (yielded ops (FA F z).tmps) = true then Oper.wp P o (FA F z) wx K Q else K ((FA F z).put o.dst undef) wx) : Step P ops Q (Inv F T R) k o := by
  intro L a w hI hk hd K' hK'
  obtain ⟨g, z, rfl, hT', hR'⟩ := hI
  refine h L g z w hR' hk hd hT' K' (fun z' wx' hz hr => ?_)
  subst hz
  exact hK'.out _ _ ⟨g, _, rfl, hT'.none k (hc g), ⟨hr⟩⟩
variable {s s1 s2 s3 s4 k1 k2 k3 k4 : Nat} {v v1 v2 v3 v4 : G → Value}
/-- An operation that only reads; what it reads are the places j1.. of the table. -/
theorem V0 (j : Nat) (hT : ∀ g, (T g)[j]? = some (k, s, v g) := by exact fun _ => rfl) (hc : ∀ g, chk (T g) j k s = true := by exact fun _ => rfl)
    (hR : ∀ LL g z wx, LL k = false → (∀ i, (o.after.toList.any fun e => e.on == i && Region.binds .any e) = true → LL i = true) → R LL g z wx → R (upd LL k) g (put1 z s (v g)) wx := by exact fun _ _ _ _ _ _ h => h)
    (h : ∀ LL g z wx, Aside0 (R LL g z wx) → LL k = false → ∀ K : Act → World → Prop, Shut (K (FA F (put1 z s (v g))) wx) → if Region.wanted o (yielded ops (FA F z).tmps) = true then Oper.wp P o (FA F z) wx K Q else K ((FA F z).put o.dst undef) wx := by
      intro LL g z wx hl hk K hK; dsimp only [FA]; refine wantd (by rfl) ?_; go_simp; exact hK.out) : Step P ops Q (Inv F T R) k o :=
  CD j hT hc (fun LL g z wx hl hk hd _ K hK => h LL g z wx hl hk K (hK g z wx rfl rfl rfl (hR LL g z wx hk hd hl.out)))
theorem V1 (j j1 : Nat) (hT : ∀ g, (T g)[j]? = some (k, s, v g) := by exact fun _ => rfl) (hc : ∀ g, chk (T g) j k s = true := by exact fun _ => rfl)
    (h1 : ∀ g, (T g)[j1]? = some (k1, s1, v1 g) := by exact fun _ => rfl) (d1 : (o.after.toList.any fun e => e.on == k1 && Region.binds .any e) = true := by rfl)
    (hR : ∀ LL g z wx, LL k = false → (∀ i, (o.after.toList.any fun e => e.on == i && Region.binds .any e) = true → LL i = true) → R LL g z wx → R (upd LL k) g (put1 z s (v g)) wx := by exact fun _ _ _ _ _ _ h => h)
    (h : ∀ LL g z wx, Aside0 (R LL g z wx) → LL k = false → z s1 = v1 g → ∀ K : Act → World → Prop, Shut (K (FA F (put1 (put1 z s1 (v1 g)) s (v g))) wx) → if Region.wanted o (yielded ops (FA F z).tmps) = true then Oper.wp P o (FA F z) wx K Q else K ((FA F z).put o.dst undef) wx := by
      intro LL g z wx hl hk e1 K hK; dsimp only [FA]; refine wantd (by first | rfl | (rw [e1]; rfl)) ?_; go_simp; exact hK.out) : Step P ops Q (Inv F T R) k o :=
  CD j hT hc (fun LL g z wx hl hk hd hI K hK => h LL g z wx hl hk (hI.at j1 (h1 g) (hd k1 d1)) K (hK g _ wx (sm1 (hI.at j1 (h1 g) (hd k1 d1))) rfl rfl (hR LL g z wx hk hd hl.out)))
theorem V2 (j j1 j2 : Nat) (hT : ∀ g, (T g)[j]? = some (k, s, v g) := by exact fun _ => rfl) (hc : ∀ g, chk (T g) j k s = true := by exact fun _ => rfl)
    (h1 : ∀ g, (T g)[j1]? = some (k1, s1, v1 g) := by exact fun _ => rfl) (d1 : (o.after.toList.any fun e => e.on == k1 && Region.binds .any e) = true := by rfl)
    (h2 : ∀ g, (T g)[j2]? = some (k2, s2, v2 g) := by exact fun _ => rfl) (d2 : (o.after.toList.any fun e => e.on == k2 && Region.binds .any e) = true := by rfl)
    (hR : ∀ LL g z wx, LL k = false → (∀ i, (o.after.toList.any fun e => e.on == i && Region.binds .any e) = true → LL i = true) → R LL g z wx → R (upd LL k) g (put1 z s (v g)) wx := by exact fun _ _ _ _ _ _ h => h)
    (h : ∀ LL g z wx, Aside0 (R LL g z wx) → LL k = false → z s1 = v1 g → z s2 = v2 g → ∀ K : Act → World → Prop, Shut (K (FA F (put1 (put1 (put1 z s1 (v1 g)) s2 (v2 g)) s (v g))) wx) → if Region.wanted o (yielded ops (FA F z).tmps) = true then Oper.wp P o (FA F z) wx K Q else K ((FA F z).put o.dst undef) wx := by
      intro LL g z wx hl hk e1 e2 K hK; dsimp only [FA]; refine wantd (by first | rfl | (rw [e1]; rfl)) ?_; go_simp; exact hK.out) : Step P ops Q (Inv F T R) k o :=
  CD j hT hc (fun LL g z wx hl hk hd hI K hK => h LL g z wx hl hk (hI.at j1 (h1 g) (hd k1 d1)) (hI.at j2 (h2 g) (hd k2 d2)) K (hK g _ wx (sm2 (hI.at j1 (h1 g) (hd k1 d1)) (hI.at j2 (h2 g) (hd k2 d2))) rfl rfl (hR LL g z wx hk hd hl.out)))
theorem V3 (j j1 j2 j3 : Nat) (hT : ∀ g, (T g)[j]? = some (k, s, v g) := by exact fun _ => rfl) (hc : ∀ g, chk (T g) j k s = true := by exact fun _ => rfl)
    (h1 : ∀ g, (T g)[j1]? = some (k1, s1, v1 g) := by exact fun _ => rfl) (d1 : (o.after.toList.any fun e => e.on == k1 && Region.binds .any e) = true := by rfl)
    (h2 : ∀ g, (T g)[j2]? = some (k2, s2, v2 g) := by exact fun _ => rfl) (d2 : (o.after.toList.any fun e => e.on == k2 && Region.binds .any e) = true := by rfl)
    (h3 : ∀ g, (T g)[j3]? = some (k3, s3, v3 g) := by exact fun _ => rfl) (d3 : (o.after.toList.any fun e => e.on == k3 && Region.binds .any e) = true := by rfl)
    (hR : ∀ LL g z wx, LL k = false → (∀ i, (o.after.toList.any fun e => e.on == i && Region.binds .any e) = true → LL i = true) → R LL g z wx → R (upd LL k) g (put1 z s (v g)) wx := by exact fun _ _ _ _ _ _ h => h)
    (h : ∀ LL g z wx, Aside0 (R LL g z wx) → LL k = false → z s1 = v1 g → z s2 = v2 g → z s3 = v3 g → ∀ K : Act → World → Prop, Shut (K (FA F (put1 (put1 (put1 (put1 z s1 (v1 g)) s2 (v2 g)) s3 (v3 g)) s (v g))) wx) → if Region.wanted o (yielded ops (FA F z).tmps) = true then Oper.wp P o (FA F z) wx K Q else K ((FA F z).put o.dst undef) wx := by
      intro LL g z wx hl hk e1 e2 e3 K hK; dsimp only [FA]; refine wantd (by first | rfl | (rw [e1]; rfl)) ?_; go_simp; exact hK.out) : Step P ops Q (Inv F T R) k o :=
  CD j hT hc (fun LL g z wx hl hk hd hI K hK => h LL g z wx hl hk (hI.at j1 (h1 g) (hd k1 d1)) (hI.at j2 (h2 g) (hd k2 d2)) (hI.at j3 (h3 g) (hd k3 d3)) K (hK g _ wx (sm3 (hI.at j1 (h1 g) (hd k1 d1)) (hI.at j2 (h2 g) (hd k2 d2)) (hI.at j3 (h3 g) (hd k3 d3))) rfl rfl (hR LL g z wx hk hd hl.out)))
/-- One that isn't wanted; j1: what guards it. -/
theorem U1 (j j1 : Nat) (hT : ∀ g, (T g)[j]? = some (k, s, v g) := by exact fun _ => rfl) (hc : ∀ g, chk (T g) j k s = true := by exact fun _ => rfl)
    (h1 : ∀ g, (T g)[j1]? = some (k1, s1, v1 g) := by exact fun _ => rfl) (d1 : (o.after.toList.any fun e => e.on == k1 && Region.binds .any e) = true := by rfl)
    (hR : ∀ LL g z wx, LL k = false → (∀ i, (o.after.toList.any fun e => e.on == i && Region.binds .any e) = true → LL i = true) → R LL g z wx → R (upd LL k) g (put1 z s (v g)) wx := by exact fun _ _ _ _ _ _ h => h)
    (h : ∀ LL g z wx, Aside0 (R LL g z wx) → LL k = false → z s1 = v1 g → ∀ K : Act → World → Prop, Shut (K (FA F (put1 z s (v g))) wx) → if Region.wanted o (yielded ops (FA F z).tmps) = true then Oper.wp P o (FA F z) wx K Q else K ((FA F z).put o.dst undef) wx := by
      intro LL g z wx hl hk e1 K hK; refine unwanted (by dsimp only [FA]; rw [e1]; rfl) ?_; exact hK.out) : Step P ops Q (Inv F T R) k o :=
  CD j hT hc (fun LL g z wx hl hk hd hI K hK => h LL g z wx hl hk (hI.at j1 (h1 g) (hd k1 d1)) K (hK g z wx rfl rfl rfl (hR LL g z wx hk hd hl.out)))
/-- A guarded operation, its guard told by letters; j1: what guards it. -/
theorem G1 (j j1 : Nat) (hT : ∀ g, (T g)[j]? = some (k, s, v g) := by exact fun _ => rfl) (hc : ∀ g, chk (T g) j k s = true := by exact fun _ => rfl)
    (h1 : ∀ g, (T g)[j1]? = some (k1, s1, v1 g) := by exact fun _ => rfl) (d1 : (o.after.toList.any fun e => e.on == k1 && Region.binds .any e) = true := by rfl)
    (hR : ∀ LL g z wx, LL k = false → (∀ i, (o.after.toList.any fun e => e.on == i && Region.binds .any e) = true → LL i = true) → R LL g z wx → R (upd LL k) g (put1 z s (v g)) wx := by exact fun _ _ _ _ _ _ h => h)
    (h : ∀ LL g z wx, Aside0 (R LL g z wx) → LL k = false → z s1 = v1 g → ∀ K : Act → World → Prop, (∀ z', z' = z → Shut (K (FA F (put1 z' s (v g))) wx)) → if Region.wanted o (yielded ops (FA F z).tmps) = true then Oper.wp P o (FA F z) wx K Q else K ((FA F z).put o.dst undef) wx) : Step P ops Q (Inv F T R) k o :=
  CD j hT hc (fun LL g z wx hl hk hd hI K hK => h LL g z wx hl hk (hI.at j1 (h1 g) (hd k1 d1)) K (fun z' hz => hK g z' wx hz rfl rfl (hR LL g z wx hk hd hl.out)))
theorem G2 (j j1 j2 : Nat) (hT : ∀ g, (T g)[j]? = some (k, s, v g) := by exact fun _ => rfl) (hc : ∀ g, chk (T g) j k s = true := by exact fun _ => rfl)
    (h1 : ∀ g, (T g)[j1]? = some (k1, s1, v1 g) := by exact fun _ => rfl) (d1 : (o.after.toList.any fun e => e.on == k1 && Region.binds .any e) = true := by rfl)
    (h2 : ∀ g, (T g)[j2]? = some (k2, s2, v2 g) := by exact fun _ => rfl) (d2 : (o.after.toList.any fun e => e.on == k2 && Region.binds .any e) = true := by rfl)
    (hR : ∀ LL g z wx, LL k = false → (∀ i, (o.after.toList.any fun e => e.on == i && Region.binds .any e) = true → LL i = true) → R LL g z wx → R (upd LL k) g (put1 z s (v g)) wx := by exact fun _ _ _ _ _ _ h => h)
    (h : ∀ LL g z wx, Aside0 (R LL g z wx) → LL k = false → z s1 = v1 g → z s2 = v2 g → ∀ K : Act → World → Prop, (∀ z', z' = z → Shut (K (FA F (put1 z' s (v g))) wx)) → if Region.wanted o (yielded ops (FA F z).tmps) = true then Oper.wp P o (FA F z) wx K Q else K ((FA F z).put o.dst undef) wx) : Step P ops Q (Inv F T R) k o :=
  CD j hT hc (fun LL g z wx hl hk hd hI K hK => h LL g z wx hl hk (hI.at j1 (h1 g) (hd k1 d1)) (hI.at j2 (h2 g) (hd k2 d2)) K (fun z' hz => hK g z' wx hz rfl rfl (hR LL g z wx hk hd hl.out)))
theorem G3 (j j1 j2 j3 : Nat) (hT : ∀ g, (T g)[j]? = some (k, s, v g) := by exact fun _ => rfl) (hc : ∀ g, chk (T g) j k s = true := by exact fun _ => rfl)
    (h1 : ∀ g, (T g)[j1]? = some (k1, s1, v1 g) := by exact fun _ => rfl) (d1 : (o.after.toList.any fun e => e.on == k1 && Region.binds .any e) = true := by rfl)
    (h2 : ∀ g, (T g)[j2]? = some (k2, s2, v2 g) := by exact fun _ => rfl) (d2 : (o.after.toList.any fun e => e.on == k2 && Region.binds .any e) = true := by rfl)
    (h3 : ∀ g, (T g)[j3]? = some (k3, s3, v3 g) := by exact fun _ => rfl) (d3 : (o.after.toList.any fun e => e.on == k3 && Region.binds .any e) = true := by rfl)
    (hR : ∀ LL g z wx, LL k = false → (∀ i, (o.after.toList.any fun e => e.on == i && Region.binds .any e) = true → LL i = true) → R LL g z wx → R (upd LL k) g (put1 z s (v g)) wx := by exact fun _ _ _ _ _ _ h => h)
    (h : ∀ LL g z wx, Aside0 (R LL g z wx) → LL k = false → z s1 = v1 g → z s2 = v2 g → z s3 = v3 g → ∀ K : Act → World → Prop, (∀ z', z' = z → Shut (K (FA F (put1 z' s (v g))) wx)) → if Region.wanted o (yielded ops (FA F z).tmps) = true then Oper.wp P o (FA F z) wx K Q else K ((FA F z).put o.dst undef) wx) : Step P ops Q (Inv F T R) k o :=
  CD j hT hc (fun LL g z wx hl hk hd hI K hK => h LL g z wx hl hk (hI.at j1 (h1 g) (hd k1 d1)) (hI.at j2 (h2 g) (hd k2 d2)) (hI.at j3 (h3 g) (hd k3 d3)) K (fun z' hz => hK g z' wx hz rfl rfl (hR LL g z wx hk hd hl.out)))
end
end Go.Proofs.YtdeepnpbibhfiaaW.PrintReg
