/- The grove's methods, by hand (gengrove.py). No condition. -/
import Derived.Test.YtbajekndbamcmaaProg
import Derived.Test.YtbajekndbamcmaaWTree
import Derived.Test.YtbajekndbamcmaaWFn
import Derived.Test.YtbajekndbamcmaaWFrz
import Derived.WalkKit
import Derived.Deep.RegionHeld3
import Derived.Test.YtbajekndbamcmaaWReg2
namespace Go.Proofs.YtbajekndbamcmaaW.GroveIS
open Go.RowKit Go.Proofs.YtbajekndbamcmaaW.PrintWords Go.Proofs.YtbajekndbamcmaaW.PrintLast Go.Proofs.YtbajekndbamcmaaW.PrintMore Go.Proofs.YtbajekndbamcmaaW.PrintReg Go.Proofs.YtbajekndbamcmaaW.PrintTree
set_option linter.unusedVariables false
set_option linter.unusedSimpArgs false
abbrev kv (k : Int) : Value := .int .i64 k
abbrev vv (v : ByteArray) : Value := .string v
abbrev Tree := Tr Int ByteArray
/-- A node's block. -/
abbrev cells (k : Int) (v : ByteArray) (l r : Value) (d : Int) : Obj := .cells #[kv k, vv v, l, r, .int .i64 d] 138 (0, 0)
/-- A tree that lies in the world. -/
abbrev Lies (w : World) (t : Tree) : Prop := t.Lies kv vv 138 w
abbrev Top (w : World) (t : Tree) : Prop := t.Top kv vv 138 w

set_option maxHeartbeats 4000000 in
set_option maxRecDepth 100000 in
theorem depth_calls (t : Tree) (w : World) (h : Top w t) :
    Calls Try.prog 87 #[.pointer t.at_] w fun e w' => e = .returned (.int .i64 t.deep) ∧ Below w.heap.size w w' := by
  have hu := Try.underlying125
  cases t with
  | nil =>
    clear h
    simp only [Tr.at_, Tr.deep]
    go_enter Try.func87, Try.ntmps87
    go_wp2
    go_ret
    exact ⟨rfl, Below.refl _ _⟩
  | node g k v d l r =>
    simp only [Tr.at_, Tr.deep]
    have hn := fun wx => run_eql_ptr_nil (P := Try.prog) wx 125 138 ⟨g, 0, none⟩ Try.underlying125
    have c4 : w.cell? ⟨g, 4, none⟩ = some (.int .i64 d) := (blk_cell h 4).trans rfl
    clear h
    go_enter Try.func87, Try.ntmps87
    go_wp2
    go_ret
    exact ⟨rfl, Below.refl _ _⟩

set_option maxHeartbeats 4000000 in
set_option maxRecDepth 100000 in
theorem lean_calls (g : Nat) (k : Int) (v : ByteArray) (d : Int) (l r : Tree) (w : World) (h : w.heap[g]? = some (cells k v (.pointer l.at_) (.pointer r.at_) d)) (hl : Top w l) (hr : Top w r)
    (bl : 0 ≤ l.deep ∧ l.deep ≤ 1000000000000) (br : 0 ≤ r.deep ∧ r.deep ≤ 1000000000000) :
    Calls Try.prog 111 #[.pointer (some ⟨g, 0, none⟩)] w fun e w' => e = .returned (.int .i64 (l.deep - r.deep)) ∧ Below w.heap.size w w' := by
  have H := Aside0.mk h
  have HL := Aside0.mk hl
  have HR := Aside0.mk hr
  have HW : Aside0 (IntKind.i64.wrap (l.deep - r.deep) = l.deep - r.deep) := ⟨by rw [i64_w]; unfold wrap64; omega⟩
  have C2 : Aside0 (w.cell? ⟨g, 2, none⟩ = some (.pointer l.at_)) := ⟨(blk_cell h 2).trans rfl⟩
  have C3 : Aside0 (w.cell? ⟨g, 3, none⟩ = some (.pointer r.at_)) := ⟨(blk_cell h 3).trans rfl⟩
  clear h hl hr bl br
  go_enter Try.func111, Try.ntmps111
  go_wp2_with fail
  refine wp_region_steps 12 rfl rfl (by kernel_rfl) (fun LL a wx => ∃ u : Nat → Value, Aside0 (a = { tmps := List.toArray (.pointer (some ⟨g, 0, none⟩) :: undef :: u 2 :: u 3 :: u 4 :: u 5 :: u 6 :: u 7 :: u 8 :: u 9 :: u 10 :: u 11 :: u 12 :: u 13 :: []), defers := [] } ∧ Tab LL u [(0, 3, .pointer (some ⟨g, 0, none⟩)), (1, 4, .pointer (some ⟨g, 0, none⟩)), (2, 5, .pointer (some ⟨g, 2, none⟩)), (3, 6, (.pointer l.at_)), (4, 7, .int .i64 l.deep), (5, 8, .pointer (some ⟨g, 0, none⟩)), (6, 9, .pointer (some ⟨g, 0, none⟩)), (7, 10, .pointer (some ⟨g, 3, none⟩)), (8, 11, (.pointer r.at_)), (9, 12, .int .i64 r.deep), (10, 13, .int .i64 (l.deep - r.deep)), (11, 2, .int .i64 (l.deep - r.deep))] ∧ Aside0 (Below w.heap.size w wx))) ?_ ?_ ?_
  · exact ⟨(put1 (fun _ => undef) 2 (.int .i64 0)), ⟨rfl, Tab.start 12 rfl rfl, ⟨below_drew (Below.refl _ _)⟩⟩⟩
  · refine Steps.cons ?_ (Steps.cons ?_ (Steps.cons ?_ (Steps.cons ?_ (Steps.cons ?_ (Steps.cons ?_ (Steps.cons ?_ (Steps.cons ?_ (Steps.cons ?_ (Steps.cons ?_ (Steps.cons ?_ (Steps.cons ?_ (Steps.nil))))))))))))
    · intro LL a wx hI hLk hd K' hK
      obtain ⟨u, hI⟩ := hI
      obtain rfl := hI.out.1
      rw [if_pos (by rfl)]
      go_simp
      exact hK.out _ _ ⟨(put1 u 3 (.pointer (some ⟨g, 0, none⟩))), ⟨rfl, hI.out.2.1.upd 0 rfl rfl rfl rfl, hI.out.2.2⟩⟩
    · intro LL a wx hI hLk hd K' hK
      obtain ⟨u, hI⟩ := hI
      obtain rfl := hI.out.1
      have e0 := hI.out.2.1.at 0 rfl (hd 0 rfl)
      rw [if_pos (by rfl)]
      go_simp
      exact hK.out _ _ ⟨(put1 (put1 u 3 (.pointer (some ⟨g, 0, none⟩))) 4 (.pointer (some ⟨g, 0, none⟩))), ⟨rfl, (hI.out.2.1.same (s := 3) (v := .pointer (some ⟨g, 0, none⟩)) e0).upd 1 rfl rfl rfl rfl, hI.out.2.2⟩⟩
    · intro LL a wx hI hLk hd K' hK
      obtain ⟨u, hI⟩ := hI
      obtain rfl := hI.out.1
      have e1 := hI.out.2.1.at 1 rfl (hd 1 rfl)
      rw [if_pos (by rfl)]
      go_simp
      exact hK.out _ _ ⟨(put1 (put1 u 4 (.pointer (some ⟨g, 0, none⟩))) 5 (.pointer (some ⟨g, 2, none⟩))), ⟨rfl, (hI.out.2.1.same (s := 4) (v := .pointer (some ⟨g, 0, none⟩)) e1).upd 2 rfl rfl rfl rfl, hI.out.2.2⟩⟩
    · intro LL a wx hI hLk hd K' hK
      obtain ⟨u, hI⟩ := hI
      obtain rfl := hI.out.1
      have e2 := hI.out.2.1.at 2 rfl (hd 2 rfl)
      have hb := hI.out.2.2
      have ck := cell_keep hb.out C2.out
      rw [if_pos (by rfl)]
      go_simp
      exact hK.out _ _ ⟨(put1 (put1 u 5 (.pointer (some ⟨g, 2, none⟩))) 6 ((.pointer l.at_))), ⟨rfl, (hI.out.2.1.same (s := 5) (v := .pointer (some ⟨g, 2, none⟩)) e2).upd 3 rfl rfl rfl rfl, hI.out.2.2⟩⟩
    · intro LL a wx hI hLk hd K' hK
      obtain ⟨u, hI⟩ := hI
      obtain rfl := hI.out.1
      have e3 := hI.out.2.1.at 3 rfl (hd 3 rfl)
      have hb := hI.out.2.2
      rw [if_pos (by rfl)]
      go_simp
      go_at_call 87
      refine (depth_calls l wx (HL.out.below hb.out)).mono ?_
      rintro e w' ⟨rfl, hb1⟩
      exact hK.out _ _ ⟨(put1 (put1 u 6 ((.pointer l.at_))) 7 (.int .i64 l.deep)), ⟨rfl, (hI.out.2.1.same (s := 6) (v := (.pointer l.at_)) e3).upd 4 rfl rfl rfl rfl, ⟨below_step hb.out hb1⟩⟩⟩
    · intro LL a wx hI hLk hd K' hK
      obtain ⟨u, hI⟩ := hI
      obtain rfl := hI.out.1
      rw [if_pos (by rfl)]
      go_simp
      exact hK.out _ _ ⟨(put1 u 8 (.pointer (some ⟨g, 0, none⟩))), ⟨rfl, hI.out.2.1.upd 5 rfl rfl rfl rfl, hI.out.2.2⟩⟩
    · intro LL a wx hI hLk hd K' hK
      obtain ⟨u, hI⟩ := hI
      obtain rfl := hI.out.1
      have e5 := hI.out.2.1.at 5 rfl (hd 5 rfl)
      rw [if_pos (by rfl)]
      go_simp
      exact hK.out _ _ ⟨(put1 (put1 u 8 (.pointer (some ⟨g, 0, none⟩))) 9 (.pointer (some ⟨g, 0, none⟩))), ⟨rfl, (hI.out.2.1.same (s := 8) (v := .pointer (some ⟨g, 0, none⟩)) e5).upd 6 rfl rfl rfl rfl, hI.out.2.2⟩⟩
    · intro LL a wx hI hLk hd K' hK
      obtain ⟨u, hI⟩ := hI
      obtain rfl := hI.out.1
      have e6 := hI.out.2.1.at 6 rfl (hd 6 rfl)
      rw [if_pos (by rfl)]
      go_simp
      exact hK.out _ _ ⟨(put1 (put1 u 9 (.pointer (some ⟨g, 0, none⟩))) 10 (.pointer (some ⟨g, 3, none⟩))), ⟨rfl, (hI.out.2.1.same (s := 9) (v := .pointer (some ⟨g, 0, none⟩)) e6).upd 7 rfl rfl rfl rfl, hI.out.2.2⟩⟩
    · intro LL a wx hI hLk hd K' hK
      obtain ⟨u, hI⟩ := hI
      obtain rfl := hI.out.1
      have e7 := hI.out.2.1.at 7 rfl (hd 7 rfl)
      have hb := hI.out.2.2
      have ck := cell_keep hb.out C3.out
      rw [if_pos (by rfl)]
      go_simp
      exact hK.out _ _ ⟨(put1 (put1 u 10 (.pointer (some ⟨g, 3, none⟩))) 11 ((.pointer r.at_))), ⟨rfl, (hI.out.2.1.same (s := 10) (v := .pointer (some ⟨g, 3, none⟩)) e7).upd 8 rfl rfl rfl rfl, hI.out.2.2⟩⟩
    · intro LL a wx hI hLk hd K' hK
      obtain ⟨u, hI⟩ := hI
      obtain rfl := hI.out.1
      have e8 := hI.out.2.1.at 8 rfl (hd 8 rfl)
      have hb := hI.out.2.2
      rw [if_pos (by rfl)]
      go_simp
      go_at_call 87
      refine (depth_calls r wx (HR.out.below hb.out)).mono ?_
      rintro e w' ⟨rfl, hb1⟩
      exact hK.out _ _ ⟨(put1 (put1 u 11 ((.pointer r.at_))) 12 (.int .i64 r.deep)), ⟨rfl, (hI.out.2.1.same (s := 11) (v := (.pointer r.at_)) e8).upd 9 rfl rfl rfl rfl, ⟨below_step hb.out hb1⟩⟩⟩
    · intro LL a wx hI hLk hd K' hK
      obtain ⟨u, hI⟩ := hI
      obtain rfl := hI.out.1
      have e4 := hI.out.2.1.at 4 rfl (hd 4 rfl)
      have e9 := hI.out.2.1.at 9 rfl (hd 9 rfl)
      have hw := HW.out
      rw [if_pos (by rfl)]
      go_simp
      exact hK.out _ _ ⟨(put1 (put1 (put1 u 7 (.int .i64 l.deep)) 12 (.int .i64 r.deep)) 13 (.int .i64 (l.deep - r.deep))), ⟨rfl, ((hI.out.2.1.same (s := 7) (v := .int .i64 l.deep) e4).same (s := 12) (v := .int .i64 r.deep) e9).upd 10 rfl rfl rfl rfl, hI.out.2.2⟩⟩
    · intro LL a wx hI hLk hd K' hK
      obtain ⟨u, hI⟩ := hI
      obtain rfl := hI.out.1
      have e10 := hI.out.2.1.at 10 rfl (hd 10 rfl)
      rw [if_pos (by rfl)]
      go_simp
      exact hK.out _ _ ⟨(put1 (put1 u 13 (.int .i64 (l.deep - r.deep))) 2 (.int .i64 (l.deep - r.deep))), ⟨rfl, (hI.out.2.1.same (s := 13) (v := .int .i64 (l.deep - r.deep)) e10).upd 11 rfl rfl rfl rfl, hI.out.2.2⟩⟩
  · intro LL a wq hall hI
    obtain ⟨u, hI⟩ := hI
    obtain rfl := hI.out.1
    have hb := hI.out.2.2
    have e11 := hI.out.2.1.at 11 rfl (hall 11 (by decide))
    rw [e11]
    have HB := hb
    clear hI hb e11
    go_wp2
    go_ret
    exact ⟨rfl, HB.out⟩

set_option maxHeartbeats 4000000 in
set_option maxRecDepth 100000 in
theorem set_calls (g : Nat) (k : Int) (v : ByteArray) (d : Int) (l r : Tree) (w : World) (h : w.heap[g]? = some (cells k v (.pointer l.at_) (.pointer r.at_) d)) (hl : Top w l) (hr : Top w r) (gl : g ∉ l.blocks) (gr : g ∉ r.blocks)
    (bl : 0 ≤ l.deep ∧ l.deep ≤ 1000000000000) (br : 0 ≤ r.deep ∧ r.deep ≤ 1000000000000) :
    Calls Try.prog 110 #[.pointer (some ⟨g, 0, none⟩)] w fun e w' => e = .returned (.pointer (some ⟨g, 0, none⟩)) ∧ w'.heap[g]? = some (cells k v (.pointer l.at_) (.pointer r.at_) (1 + max l.deep r.deep)) ∧ On (· = g) w w' := by
  have H := Aside0.mk h
  have HL := Aside0.mk hl
  have HR := Aside0.mk hr
  have GL : Aside0 (∀ q ∈ l.blocks, ¬ q = g) := ⟨fun q hq e => gl (e ▸ hq)⟩
  have GR : Aside0 (∀ q ∈ r.blocks, ¬ q = g) := ⟨fun q hq e => gr (e ▸ hq)⟩
  have HM : Aside0 ((if l.deep < r.deep then r.deep else l.deep) = max l.deep r.deep) := ⟨by split <;> omega⟩
  have HW : Aside0 (IntKind.i64.wrap (1 + max l.deep r.deep) = 1 + max l.deep r.deep) := ⟨by rw [i64_w]; unfold wrap64; omega⟩
  clear h hl hr bl br gl gr
  go_enter Try.func110, Try.ntmps110
  go_wp2_with fail
  refine wp_region_steps 16 rfl rfl (by kernel_rfl) (fun LL a wx => ∃ u : Nat → Value, Aside0 (a = { tmps := List.toArray (.pointer (some ⟨g, 0, none⟩) :: undef :: .pointer none :: u 3 :: u 4 :: u 5 :: u 6 :: u 7 :: u 8 :: u 9 :: u 10 :: u 11 :: u 12 :: u 13 :: u 14 :: u 15 :: u 16 :: u 17 :: undef :: []), defers := [] } ∧ Tab LL u [(0, 3, .pointer (some ⟨g, 0, none⟩)), (1, 4, .pointer (some ⟨g, 0, none⟩)), (2, 5, .pointer (some ⟨g, 0, none⟩)), (3, 6, .pointer (some ⟨g, 2, none⟩)), (4, 7, (.pointer l.at_)), (5, 8, .int .i64 l.deep), (6, 9, .pointer (some ⟨g, 0, none⟩)), (7, 10, .pointer (some ⟨g, 0, none⟩)), (8, 11, .pointer (some ⟨g, 3, none⟩)), (9, 12, (.pointer r.at_)), (10, 13, .int .i64 r.deep), (11, 14, .int .i64 (max l.deep r.deep)), (12, 15, .int .i64 (1 + max l.deep r.deep)), (13, 16, .pointer (some ⟨g, 0, none⟩)), (14, 17, .pointer (some ⟨g, 4, none⟩))] ∧ Aside0 (∃ dd : Int, wx.heap[g]? = some (cells k v (.pointer l.at_) (.pointer r.at_) dd)) ∧ Aside0 (On (· = g) w wx) ∧ Aside0 (LL 15 = true → wx.heap[g]? = some (cells k v (.pointer l.at_) (.pointer r.at_) (1 + max l.deep r.deep))))) ?_ ?_ ?_
  · exact ⟨(fun _ => undef), ⟨rfl, Tab.start 16 rfl rfl, ⟨_, H.out⟩, ⟨(On.refl _ _).drew⟩, ⟨fun h => absurd h (by decide)⟩⟩⟩
  · refine Steps.cons ?_ (Steps.cons ?_ (Steps.cons ?_ (Steps.cons ?_ (Steps.cons ?_ (Steps.cons ?_ (Steps.cons ?_ (Steps.cons ?_ (Steps.cons ?_ (Steps.cons ?_ (Steps.cons ?_ (Steps.cons ?_ (Steps.cons ?_ (Steps.cons ?_ (Steps.cons ?_ (Steps.cons ?_ (Steps.nil))))))))))))))))
    · intro LL a wx hI hLk hd K' hK
      obtain ⟨u, hI⟩ := hI
      obtain rfl := hI.out.1
      rw [if_pos (by rfl)]
      go_simp
      exact hK.out _ _ ⟨(put1 u 3 (.pointer (some ⟨g, 0, none⟩))), ⟨rfl, hI.out.2.1.upd 0 rfl rfl rfl rfl, hI.out.2.2.1, hI.out.2.2.2.1, hI.out.2.2.2.2⟩⟩
    · intro LL a wx hI hLk hd K' hK
      obtain ⟨u, hI⟩ := hI
      obtain rfl := hI.out.1
      rw [if_pos (by rfl)]
      go_simp
      exact hK.out _ _ ⟨(put1 u 4 (.pointer (some ⟨g, 0, none⟩))), ⟨rfl, hI.out.2.1.upd 1 rfl rfl rfl rfl, hI.out.2.2.1, hI.out.2.2.2.1, hI.out.2.2.2.2⟩⟩
    · intro LL a wx hI hLk hd K' hK
      obtain ⟨u, hI⟩ := hI
      obtain rfl := hI.out.1
      have e1 := hI.out.2.1.at 1 rfl (hd 1 rfl)
      rw [if_pos (by rfl)]
      go_simp
      exact hK.out _ _ ⟨(put1 (put1 u 4 (.pointer (some ⟨g, 0, none⟩))) 5 (.pointer (some ⟨g, 0, none⟩))), ⟨rfl, (hI.out.2.1.same (s := 4) (v := .pointer (some ⟨g, 0, none⟩)) e1).upd 2 rfl rfl rfl rfl, hI.out.2.2.1, hI.out.2.2.2.1, hI.out.2.2.2.2⟩⟩
    · intro LL a wx hI hLk hd K' hK
      obtain ⟨u, hI⟩ := hI
      obtain rfl := hI.out.1
      have e2 := hI.out.2.1.at 2 rfl (hd 2 rfl)
      rw [if_pos (by rfl)]
      go_simp
      exact hK.out _ _ ⟨(put1 (put1 u 5 (.pointer (some ⟨g, 0, none⟩))) 6 (.pointer (some ⟨g, 2, none⟩))), ⟨rfl, (hI.out.2.1.same (s := 5) (v := .pointer (some ⟨g, 0, none⟩)) e2).upd 3 rfl rfl rfl rfl, hI.out.2.2.1, hI.out.2.2.2.1, hI.out.2.2.2.2⟩⟩
    · intro LL a wx hI hLk hd K' hK
      obtain ⟨u, hI⟩ := hI
      obtain rfl := hI.out.1
      have e3 := hI.out.2.1.at 3 rfl (hd 3 rfl)
      have hc := hI.out.2.2.1
      obtain ⟨dd, hcd⟩ := hc.out
      have ck := (blk_cell hcd 2).trans rfl
      rw [if_pos (by rfl)]
      go_simp
      exact hK.out _ _ ⟨(put1 (put1 u 6 (.pointer (some ⟨g, 2, none⟩))) 7 ((.pointer l.at_))), ⟨rfl, (hI.out.2.1.same (s := 6) (v := .pointer (some ⟨g, 2, none⟩)) e3).upd 4 rfl rfl rfl rfl, hI.out.2.2.1, hI.out.2.2.2.1, hI.out.2.2.2.2⟩⟩
    · intro LL a wx hI hLk hd K' hK
      obtain ⟨u, hI⟩ := hI
      obtain rfl := hI.out.1
      have e4 := hI.out.2.1.at 4 rfl (hd 4 rfl)
      have hc := hI.out.2.2.1
      have ho := hI.out.2.2.2.1
      have hs := hI.out.2.2.2.2
      rw [if_pos (by rfl)]
      go_simp
      go_at_call 87
      refine (depth_calls l wx (HL.out.on ho.out GL.out)).mono ?_
      rintro e w' ⟨rfl, hb1⟩
      exact hK.out _ _ ⟨(put1 (put1 u 7 ((.pointer l.at_))) 8 (.int .i64 l.deep)), ⟨rfl, (hI.out.2.1.same (s := 7) (v := (.pointer l.at_)) e4).upd 5 rfl rfl rfl rfl, ⟨hc.out.elim fun dd h => ⟨dd, blk_below h hb1⟩⟩, ⟨ho.out.trans (On.of_below hb1)⟩, ⟨fun h => blk_below (hs.out h) hb1⟩⟩⟩
    · intro LL a wx hI hLk hd K' hK
      obtain ⟨u, hI⟩ := hI
      obtain rfl := hI.out.1
      rw [if_pos (by rfl)]
      go_simp
      exact hK.out _ _ ⟨(put1 u 9 (.pointer (some ⟨g, 0, none⟩))), ⟨rfl, hI.out.2.1.upd 6 rfl rfl rfl rfl, hI.out.2.2.1, hI.out.2.2.2.1, hI.out.2.2.2.2⟩⟩
    · intro LL a wx hI hLk hd K' hK
      obtain ⟨u, hI⟩ := hI
      obtain rfl := hI.out.1
      have e6 := hI.out.2.1.at 6 rfl (hd 6 rfl)
      rw [if_pos (by rfl)]
      go_simp
      exact hK.out _ _ ⟨(put1 (put1 u 9 (.pointer (some ⟨g, 0, none⟩))) 10 (.pointer (some ⟨g, 0, none⟩))), ⟨rfl, (hI.out.2.1.same (s := 9) (v := .pointer (some ⟨g, 0, none⟩)) e6).upd 7 rfl rfl rfl rfl, hI.out.2.2.1, hI.out.2.2.2.1, hI.out.2.2.2.2⟩⟩
    · intro LL a wx hI hLk hd K' hK
      obtain ⟨u, hI⟩ := hI
      obtain rfl := hI.out.1
      have e7 := hI.out.2.1.at 7 rfl (hd 7 rfl)
      rw [if_pos (by rfl)]
      go_simp
      exact hK.out _ _ ⟨(put1 (put1 u 10 (.pointer (some ⟨g, 0, none⟩))) 11 (.pointer (some ⟨g, 3, none⟩))), ⟨rfl, (hI.out.2.1.same (s := 10) (v := .pointer (some ⟨g, 0, none⟩)) e7).upd 8 rfl rfl rfl rfl, hI.out.2.2.1, hI.out.2.2.2.1, hI.out.2.2.2.2⟩⟩
    · intro LL a wx hI hLk hd K' hK
      obtain ⟨u, hI⟩ := hI
      obtain rfl := hI.out.1
      have e8 := hI.out.2.1.at 8 rfl (hd 8 rfl)
      have hc := hI.out.2.2.1
      obtain ⟨dd, hcd⟩ := hc.out
      have ck := (blk_cell hcd 3).trans rfl
      rw [if_pos (by rfl)]
      go_simp
      exact hK.out _ _ ⟨(put1 (put1 u 11 (.pointer (some ⟨g, 3, none⟩))) 12 ((.pointer r.at_))), ⟨rfl, (hI.out.2.1.same (s := 11) (v := .pointer (some ⟨g, 3, none⟩)) e8).upd 9 rfl rfl rfl rfl, hI.out.2.2.1, hI.out.2.2.2.1, hI.out.2.2.2.2⟩⟩
    · intro LL a wx hI hLk hd K' hK
      obtain ⟨u, hI⟩ := hI
      obtain rfl := hI.out.1
      have e9 := hI.out.2.1.at 9 rfl (hd 9 rfl)
      have hc := hI.out.2.2.1
      have ho := hI.out.2.2.2.1
      have hs := hI.out.2.2.2.2
      rw [if_pos (by rfl)]
      go_simp
      go_at_call 87
      refine (depth_calls r wx (HR.out.on ho.out GR.out)).mono ?_
      rintro e w' ⟨rfl, hb1⟩
      exact hK.out _ _ ⟨(put1 (put1 u 12 ((.pointer r.at_))) 13 (.int .i64 r.deep)), ⟨rfl, (hI.out.2.1.same (s := 12) (v := (.pointer r.at_)) e9).upd 10 rfl rfl rfl rfl, ⟨hc.out.elim fun dd h => ⟨dd, blk_below h hb1⟩⟩, ⟨ho.out.trans (On.of_below hb1)⟩, ⟨fun h => blk_below (hs.out h) hb1⟩⟩⟩
    · intro LL a wx hI hLk hd K' hK
      obtain ⟨u, hI⟩ := hI
      obtain rfl := hI.out.1
      have e5 := hI.out.2.1.at 5 rfl (hd 5 rfl)
      have e10 := hI.out.2.1.at 10 rfl (hd 10 rfl)
      have hm := HM.out
      rw [if_pos (by rfl)]
      go_simp
      exact hK.out _ _ ⟨(put1 (put1 (put1 u 8 (.int .i64 l.deep)) 13 (.int .i64 r.deep)) 14 (.int .i64 (max l.deep r.deep))), ⟨rfl, ((hI.out.2.1.same (s := 8) (v := .int .i64 l.deep) e5).same (s := 13) (v := .int .i64 r.deep) e10).upd 11 rfl rfl rfl rfl, hI.out.2.2.1, hI.out.2.2.2.1, hI.out.2.2.2.2⟩⟩
    · intro LL a wx hI hLk hd K' hK
      obtain ⟨u, hI⟩ := hI
      obtain rfl := hI.out.1
      have e11 := hI.out.2.1.at 11 rfl (hd 11 rfl)
      have hw := HW.out
      rw [if_pos (by rfl)]
      go_simp
      exact hK.out _ _ ⟨(put1 (put1 u 14 (.int .i64 (max l.deep r.deep))) 15 (.int .i64 (1 + max l.deep r.deep))), ⟨rfl, (hI.out.2.1.same (s := 14) (v := .int .i64 (max l.deep r.deep)) e11).upd 12 rfl rfl rfl rfl, hI.out.2.2.1, hI.out.2.2.2.1, hI.out.2.2.2.2⟩⟩
    · intro LL a wx hI hLk hd K' hK
      obtain ⟨u, hI⟩ := hI
      obtain rfl := hI.out.1
      have e0 := hI.out.2.1.at 0 rfl (hd 0 rfl)
      rw [if_pos (by rfl)]
      go_simp
      exact hK.out _ _ ⟨(put1 (put1 u 3 (.pointer (some ⟨g, 0, none⟩))) 16 (.pointer (some ⟨g, 0, none⟩))), ⟨rfl, (hI.out.2.1.same (s := 3) (v := .pointer (some ⟨g, 0, none⟩)) e0).upd 13 rfl rfl rfl rfl, hI.out.2.2.1, hI.out.2.2.2.1, hI.out.2.2.2.2⟩⟩
    · intro LL a wx hI hLk hd K' hK
      obtain ⟨u, hI⟩ := hI
      obtain rfl := hI.out.1
      have e13 := hI.out.2.1.at 13 rfl (hd 13 rfl)
      rw [if_pos (by rfl)]
      go_simp
      exact hK.out _ _ ⟨(put1 (put1 u 16 (.pointer (some ⟨g, 0, none⟩))) 17 (.pointer (some ⟨g, 4, none⟩))), ⟨rfl, (hI.out.2.1.same (s := 16) (v := .pointer (some ⟨g, 0, none⟩)) e13).upd 14 rfl rfl rfl rfl, hI.out.2.2.1, hI.out.2.2.2.1, hI.out.2.2.2.2⟩⟩
    · intro LL a wx hI hLk hd K' hK
      obtain ⟨u, hI⟩ := hI
      obtain rfl := hI.out.1
      have e12 := hI.out.2.1.at 12 rfl (hd 12 rfl)
      have e14 := hI.out.2.1.at 14 rfl (hd 14 rfl)
      have hc := hI.out.2.2.1
      have ho := hI.out.2.2.2.1
      obtain ⟨dd, hcd⟩ := hc.out
      have ck := (blk_cell hcd 4).trans rfl
      have fz := blk_frozen hcd 4
      rw [if_pos (by rfl)]
      go_simp
      exact hK.out _ _ ⟨(put1 (put1 u 15 (.int .i64 (1 + max l.deep r.deep))) 17 (.pointer (some ⟨g, 4, none⟩))), ⟨rfl, ((hI.out.2.1.same (s := 15) (v := .int .i64 (1 + max l.deep r.deep)) e12).same (s := 17) (v := .pointer (some ⟨g, 4, none⟩)) e14).none 15 rfl, ⟨_, blk_put hcd 4 _ rfl⟩, ⟨ho.out.set rfl _⟩, ⟨fun _ => blk_put hcd 4 _ rfl⟩⟩⟩
  · intro LL a wq hall hI
    obtain ⟨u, hI⟩ := hI
    obtain rfl := hI.out.1
    have hc := hI.out.2.2.1
    have ho := hI.out.2.2.2.1
    have hs := hI.out.2.2.2.2
    have HO := ho
    have HS := Aside0.mk (hs.out (hall 15 (by decide)))
    clear hI hc ho hs
    go_wp2
    go_ret
    exact ⟨rfl, HS.out, HO.out⟩

set_option maxHeartbeats 4000000 in
set_option maxRecDepth 100000 in
theorem toRight_calls (gx gy : Nat) (kx ky : Int) (vx vy : ByteArray) (d dy : Int) (a b c : Tree) (w : World) (hl : Lies w (.node gx kx vx d (.node gy ky vy dy a b) c)) (hn : (.node gx kx vx d (.node gy ky vy dy a b) c : Tree).blocks.Nodup)
    (ba : 0 ≤ a.deep ∧ a.deep ≤ 100000000000) (bb : 0 ≤ b.deep ∧ b.deep ≤ 100000000000) (bc : 0 ≤ c.deep ∧ c.deep ≤ 100000000000) :
    Calls Try.prog 113 #[.pointer (some ⟨gx, 0, none⟩)] w fun e w' => e = .returned (.pointer (some ⟨gy, 0, none⟩)) ∧ Lies w' (.mk gy ky vy a (.mk gx kx vx b c)) ∧ On (· ∈ (.node gx kx vx d (.node gy ky vy dy a b) c : Tree).blocks) w w' := by
  obtain ⟨hx, ⟨hy, ha, hb⟩, hc⟩ := hl
  simp only [Tr.blocks, Tr.at_, List.cons_append, List.nodup_cons, List.mem_cons, List.mem_append, not_or, List.nodup_append, List.append_assoc] at hn hx hy
  have nxy : gx ≠ gy := by simp [hn]
  have nxa : gx ∉ a.blocks := by simp [hn]
  have nxb : gx ∉ b.blocks := by simp [hn]
  have nxc : gx ∉ c.blocks := by simp [hn]
  have nya : gy ∉ a.blocks := by simp [hn]
  have nyb : gy ∉ b.blocks := by simp [hn]
  have nyc : gy ∉ c.blocks := by first | simp [hn] | exact fun h => absurd rfl (hn.2.2.2 gy h gy (by simp))
  clear hn
  have x1 : w.cell? ⟨gx, 2, none⟩ = some (.pointer (some ⟨gy, 0, none⟩)) := (blk_cell hx 2).trans rfl
  have y1 : w.cell? ⟨gy, 3, none⟩ = some (.pointer b.at_) := (blk_cell hy 3).trans rfl
  have fx := blk_frozen hx 2
  have fy := blk_frozen hy 3
  have hx2 : ((w.setCell ⟨gx, 2, none⟩ (.pointer b.at_)).setCell ⟨gy, 3, none⟩ (.pointer (some ⟨gx, 0, none⟩))).heap[gx]? = some (cells kx vx (.pointer b.at_) (.pointer c.at_) d) := blk_far (blk_put hx 2 _ rfl) nxy _
  have hy2 : ((w.setCell ⟨gx, 2, none⟩ (.pointer b.at_)).setCell ⟨gy, 3, none⟩ (.pointer (some ⟨gx, 0, none⟩))).heap[gy]? = some (cells ky vy (.pointer a.at_) (.pointer (some ⟨gx, 0, none⟩)) dy) := blk_put (blk_far hy nxy.symm _) 3 _ rfl
  have ho2 : On (fun k => k = gx ∨ k = gy) w ((w.setCell ⟨gx, 2, none⟩ (.pointer b.at_)).setCell ⟨gy, 3, none⟩ (.pointer (some ⟨gx, 0, none⟩))) := ((On.refl _ _).set (.inl rfl) _).set (.inr rfl) _
  have fy2 : (w.setCell ⟨gx, 2, none⟩ (.pointer b.at_)).frozen? ⟨gy, 3, none⟩ = false := blk_frozen (blk_far hy nxy.symm _) 3
  have cy2 : (w.setCell ⟨gx, 2, none⟩ (.pointer b.at_)).cell? ⟨gy, 3, none⟩ = some (.pointer b.at_) := (blk_cell (blk_far hy nxy.symm _) 3).trans rfl
  have HX := Aside0.mk hx2
  have HY := Aside0.mk hy2
  have HO := Aside0.mk ho2
  have HA := Aside0.mk ha
  have HB := Aside0.mk hb
  have HC := Aside0.mk hc
  have HN := Aside0.mk (And.intro nxy (And.intro nxa (And.intro nxb (And.intro nxc (And.intro nya (And.intro nyb nyc))))))
  have HBD := Aside0.mk (And.intro ba (And.intro bb bc))
  clear hx hy hx2 hy2 ho2 ha hb hc nxy nxa nxb nxc nya nyb nyc ba bb bc
  go_enter Try.func113, Try.ntmps113
  go_wp2_with fail
  obtain ⟨w2, hw2⟩ : ∃ W, W = (w.setCell ⟨gx, 2, none⟩ (.pointer b.at_)).setCell ⟨gy, 3, none⟩ (.pointer (some ⟨gx, 0, none⟩)) := ⟨_, rfl⟩
  rw [← hw2] at HX HY HO ⊢
  have nx : ∀ t : Tree, gx ∉ t.blocks → gy ∉ t.blocks → ∀ q ∈ t.blocks, ¬ (q = gx ∨ q = gy) := fun t h1 h2 q hq e => by rcases e with rfl | rfl; exact h1 hq; exact h2 hq
  have la := HA.out.on HO.out (nx _ HN.out.2.1 HN.out.2.2.2.2.1)
  have lb := HB.out.on HO.out (nx _ HN.out.2.2.1 HN.out.2.2.2.2.2.1)
  have lc := HC.out.on HO.out (nx _ HN.out.2.2.2.1 HN.out.2.2.2.2.2.2)
  go_at_call 110
  refine (set_calls gx kx vx d b c w2 HX.out lb.top lc.top HN.out.2.2.1 HN.out.2.2.2.1 (by have := HBD.out; omega) (by have := HBD.out; omega)).mono ?_
  rintro e w3 ⟨rfl, hx3, ho3⟩
  have HX3 := Aside0.mk hx3
  have HY3 := Aside0.mk (ho3.blk HY.out (Ne.symm HN.out.1))
  have n1 : ∀ t : Tree, gx ∉ t.blocks → ∀ q ∈ t.blocks, ¬ (q = gx) := fun t h1 q hq e => h1 (e ▸ hq)
  have HA3 := Aside0.mk (la.on ho3 (n1 _ HN.out.2.1))
  have HB3 := Aside0.mk (lb.on ho3 (n1 _ HN.out.2.2.1))
  have HC3 := Aside0.mk (lc.on ho3 (n1 _ HN.out.2.2.2.1))
  have HO3 := Aside0.mk (HO.out.trans (ho3.mono (fun _ e => .inl e)))
  clear hx3 ho3 la lb lc nx n1 hw2 HX HY HO HA HB HC x1 y1 fx fy fy2 cy2
  go_wp2_with fail
  have hm : (Tr.mk gx kx vx b c).deep = 1 + max (Tr.deep b) (Tr.deep c) := rfl
  have hg : gy ∉ (Tr.mk gx kx vx b c).blocks := by have := HN.out; simp [Tr.mk, Tr.blocks, this, Ne.symm this.1]
  have ht : Top w3 (Tr.mk gx kx vx b c) := HX3.out
  go_at_call 110
  refine (set_calls gy ky vy dy a (Tr.mk gx kx vx b c) w3 HY3.out HA3.out.top ht HN.out.2.2.2.2.1 hg (by first | (have := HBD.out; omega) | (have := HBD.out; rw [hm]; omega)) (by first | (have := HBD.out; omega) | (have := HBD.out; rw [hm]; omega))).mono ?_
  rintro e w4 ⟨rfl, hy4, ho4⟩
  have n1 : ∀ t : Tree, gy ∉ t.blocks → ∀ q ∈ t.blocks, ¬ (q = gy) := fun t h1 q hq e => h1 (e ▸ hq)
  have la := HA3.out.on ho4 (n1 _ HN.out.2.2.2.2.1)
  have lb := HB3.out.on ho4 (n1 _ HN.out.2.2.2.2.2.1)
  have lc := HC3.out.on ho4 (n1 _ HN.out.2.2.2.2.2.2)
  have hx4 := ho4.blk HX3.out HN.out.1
  have hon := HO3.out.trans (ho4.mono (fun _ e => .inr e))
  have HF := Aside0.mk (And.intro hy4 (And.intro hx4 (And.intro la (And.intro lb (And.intro lc hon)))))
  clear n1 la lb lc hx4 hon hy4 ho4 HX3 HY3 HA3 HB3 HC3 HO3 ht hg hm
  go_wp2
  go_ret
  obtain ⟨hy4, hx4, la, lb, lc, hon⟩ := HF.out
  exact ⟨rfl, ⟨hy4, la, hx4, lb, lc⟩, hon.mono (fun q e => by rcases e with rfl | rfl <;> simp [Tr.blocks])⟩

set_option maxHeartbeats 4000000 in
set_option maxRecDepth 100000 in
theorem toLeft_calls (gx gy : Nat) (kx ky : Int) (vx vy : ByteArray) (d dy : Int) (a b c : Tree) (w : World) (hl : Lies w (.node gx kx vx d c (.node gy ky vy dy b a))) (hn : (.node gx kx vx d c (.node gy ky vy dy b a) : Tree).blocks.Nodup)
    (ba : 0 ≤ a.deep ∧ a.deep ≤ 100000000000) (bb : 0 ≤ b.deep ∧ b.deep ≤ 100000000000) (bc : 0 ≤ c.deep ∧ c.deep ≤ 100000000000) :
    Calls Try.prog 112 #[.pointer (some ⟨gx, 0, none⟩)] w fun e w' => e = .returned (.pointer (some ⟨gy, 0, none⟩)) ∧ Lies w' (.mk gy ky vy (.mk gx kx vx c b) a) ∧ On (· ∈ (.node gx kx vx d c (.node gy ky vy dy b a) : Tree).blocks) w w' := by
  obtain ⟨hx, hc, ⟨hy, hb, ha⟩⟩ := hl
  simp only [Tr.blocks, Tr.at_, List.cons_append, List.nodup_cons, List.mem_cons, List.mem_append, not_or, List.nodup_append, List.append_assoc] at hn hx hy
  have nxy : gx ≠ gy := by simp [hn]
  have nxa : gx ∉ a.blocks := by simp [hn]
  have nxb : gx ∉ b.blocks := by simp [hn]
  have nxc : gx ∉ c.blocks := by simp [hn]
  have nya : gy ∉ a.blocks := by simp [hn]
  have nyb : gy ∉ b.blocks := by simp [hn]
  have nyc : gy ∉ c.blocks := by first | simp [hn] | exact fun h => absurd rfl (hn.2.2.2 gy h gy (by simp))
  clear hn
  have x1 : w.cell? ⟨gx, 3, none⟩ = some (.pointer (some ⟨gy, 0, none⟩)) := (blk_cell hx 3).trans rfl
  have y1 : w.cell? ⟨gy, 2, none⟩ = some (.pointer b.at_) := (blk_cell hy 2).trans rfl
  have fx := blk_frozen hx 3
  have fy := blk_frozen hy 2
  have hx2 : ((w.setCell ⟨gx, 3, none⟩ (.pointer b.at_)).setCell ⟨gy, 2, none⟩ (.pointer (some ⟨gx, 0, none⟩))).heap[gx]? = some (cells kx vx (.pointer c.at_) (.pointer b.at_) d) := blk_far (blk_put hx 3 _ rfl) nxy _
  have hy2 : ((w.setCell ⟨gx, 3, none⟩ (.pointer b.at_)).setCell ⟨gy, 2, none⟩ (.pointer (some ⟨gx, 0, none⟩))).heap[gy]? = some (cells ky vy (.pointer (some ⟨gx, 0, none⟩)) (.pointer a.at_) dy) := blk_put (blk_far hy nxy.symm _) 2 _ rfl
  have ho2 : On (fun k => k = gx ∨ k = gy) w ((w.setCell ⟨gx, 3, none⟩ (.pointer b.at_)).setCell ⟨gy, 2, none⟩ (.pointer (some ⟨gx, 0, none⟩))) := ((On.refl _ _).set (.inl rfl) _).set (.inr rfl) _
  have fy2 : (w.setCell ⟨gx, 3, none⟩ (.pointer b.at_)).frozen? ⟨gy, 2, none⟩ = false := blk_frozen (blk_far hy nxy.symm _) 2
  have cy2 : (w.setCell ⟨gx, 3, none⟩ (.pointer b.at_)).cell? ⟨gy, 2, none⟩ = some (.pointer b.at_) := (blk_cell (blk_far hy nxy.symm _) 2).trans rfl
  have HX := Aside0.mk hx2
  have HY := Aside0.mk hy2
  have HO := Aside0.mk ho2
  have HA := Aside0.mk ha
  have HB := Aside0.mk hb
  have HC := Aside0.mk hc
  have HN := Aside0.mk (And.intro nxy (And.intro nxa (And.intro nxb (And.intro nxc (And.intro nya (And.intro nyb nyc))))))
  have HBD := Aside0.mk (And.intro ba (And.intro bb bc))
  clear hx hy hx2 hy2 ho2 ha hb hc nxy nxa nxb nxc nya nyb nyc ba bb bc
  go_enter Try.func112, Try.ntmps112
  go_wp2_with fail
  obtain ⟨w2, hw2⟩ : ∃ W, W = (w.setCell ⟨gx, 3, none⟩ (.pointer b.at_)).setCell ⟨gy, 2, none⟩ (.pointer (some ⟨gx, 0, none⟩)) := ⟨_, rfl⟩
  rw [← hw2] at HX HY HO ⊢
  have nx : ∀ t : Tree, gx ∉ t.blocks → gy ∉ t.blocks → ∀ q ∈ t.blocks, ¬ (q = gx ∨ q = gy) := fun t h1 h2 q hq e => by rcases e with rfl | rfl; exact h1 hq; exact h2 hq
  have la := HA.out.on HO.out (nx _ HN.out.2.1 HN.out.2.2.2.2.1)
  have lb := HB.out.on HO.out (nx _ HN.out.2.2.1 HN.out.2.2.2.2.2.1)
  have lc := HC.out.on HO.out (nx _ HN.out.2.2.2.1 HN.out.2.2.2.2.2.2)
  go_at_call 110
  refine (set_calls gx kx vx d c b w2 HX.out lc.top lb.top HN.out.2.2.2.1 HN.out.2.2.1 (by have := HBD.out; omega) (by have := HBD.out; omega)).mono ?_
  rintro e w3 ⟨rfl, hx3, ho3⟩
  have HX3 := Aside0.mk hx3
  have HY3 := Aside0.mk (ho3.blk HY.out (Ne.symm HN.out.1))
  have n1 : ∀ t : Tree, gx ∉ t.blocks → ∀ q ∈ t.blocks, ¬ (q = gx) := fun t h1 q hq e => h1 (e ▸ hq)
  have HA3 := Aside0.mk (la.on ho3 (n1 _ HN.out.2.1))
  have HB3 := Aside0.mk (lb.on ho3 (n1 _ HN.out.2.2.1))
  have HC3 := Aside0.mk (lc.on ho3 (n1 _ HN.out.2.2.2.1))
  have HO3 := Aside0.mk (HO.out.trans (ho3.mono (fun _ e => .inl e)))
  clear hx3 ho3 la lb lc nx n1 hw2 HX HY HO HA HB HC x1 y1 fx fy fy2 cy2
  go_wp2_with fail
  have hm : (Tr.mk gx kx vx c b).deep = 1 + max (Tr.deep c) (Tr.deep b) := rfl
  have hg : gy ∉ (Tr.mk gx kx vx c b).blocks := by have := HN.out; simp [Tr.mk, Tr.blocks, this, Ne.symm this.1]
  have ht : Top w3 (Tr.mk gx kx vx c b) := HX3.out
  go_at_call 110
  refine (set_calls gy ky vy dy (Tr.mk gx kx vx c b) a w3 HY3.out ht HA3.out.top hg HN.out.2.2.2.2.1 (by first | (have := HBD.out; omega) | (have := HBD.out; rw [hm]; omega)) (by first | (have := HBD.out; omega) | (have := HBD.out; rw [hm]; omega))).mono ?_
  rintro e w4 ⟨rfl, hy4, ho4⟩
  have n1 : ∀ t : Tree, gy ∉ t.blocks → ∀ q ∈ t.blocks, ¬ (q = gy) := fun t h1 q hq e => h1 (e ▸ hq)
  have la := HA3.out.on ho4 (n1 _ HN.out.2.2.2.2.1)
  have lb := HB3.out.on ho4 (n1 _ HN.out.2.2.2.2.2.1)
  have lc := HC3.out.on ho4 (n1 _ HN.out.2.2.2.2.2.2)
  have hx4 := ho4.blk HX3.out HN.out.1
  have hon := HO3.out.trans (ho4.mono (fun _ e => .inr e))
  have HF := Aside0.mk (And.intro hy4 (And.intro hx4 (And.intro la (And.intro lb (And.intro lc hon)))))
  clear n1 la lb lc hx4 hon hy4 ho4 HX3 HY3 HA3 HB3 HC3 HO3 ht hg hm
  go_wp2
  go_ret
  obtain ⟨hy4, hx4, la, lb, lc, hon⟩ := HF.out
  exact ⟨rfl, ⟨hy4, ⟨hx4, lc, lb⟩, la⟩, hon.mono (fun q e => by rcases e with rfl | rfl <;> simp [Tr.blocks])⟩

set_option maxHeartbeats 4000000 in
set_option maxRecDepth 100000 in
theorem even_calls (g : Nat) (k : Int) (v : ByteArray) (d : Int) (l r : Tree) (w : World) (h : w.heap[g]? = some (cells k v (.pointer l.at_) (.pointer r.at_) d)) (hl : Lies w l) (hr : Lies w r)
    (hn : (Tr.node g k v d l r).blocks.Nodup) (fl : l.Fit) (fr : r.Fit) (hc : l.count + r.count ≤ 10000000000) :
    Calls Try.prog 95 #[.pointer (some ⟨g, 0, none⟩)] w fun e w' => e = .returned (.pointer (Tr.even g k v l r).at_) ∧ Lies w' (Tr.even g k v l r) ∧ On (· ∈ (Tr.node g k v d l r).blocks) w w' := by
  have bl := fl.bounds
  have br := fr.bounds
  obtain ⟨gl, gr, nl, nr, dis⟩ := Tr.parts hn
  have H := Aside0.mk (And.intro h (And.intro hl hr))
  have N := Aside0.mk (And.intro gl (And.intro gr (And.intro nl (And.intro nr dis))))
  have F := Aside0.mk (And.intro fl (And.intro fr hc))
  have B := Aside0.mk (And.intro bl br)
  clear h hl hr gl gr nl nr dis fl fr hc bl br hn
  go_enter Try.func95, Try.ntmps95
  go_wp2_with fail
  go_at_call 110
  refine (set_calls g k v d l r w H.out.1 H.out.2.1.top H.out.2.2.top N.out.1 N.out.2.1 (by have := F.out.2.2; have := B.out; omega) (by have := F.out.2.2; have := B.out; omega)).mono ?_
  rintro e w1 ⟨rfl, h1, ho1⟩
  have hx1 : Lies w1 (Tr.mk g k v l r) := ⟨h1, H.out.2.1.on ho1 (fun q hq e => N.out.1 (e ▸ hq)), H.out.2.2.on ho1 (fun q hq e => N.out.2.1 (e ▸ hq))⟩
  have HX1 := Aside0.mk hx1
  have HO1 : Aside0 (On (· ∈ (Tr.node g k v d l r).blocks) w w1) := ⟨ho1.mono (fun q e => by rw [e]; simp [Tr.blocks])⟩
  clear h1 hx1 ho1 H
  go_wp2_with fail
  go_at_call 111
  refine (lean_calls g k v _ l r w1 HX1.out.1 HX1.out.2.1.top HX1.out.2.2.top (by have := F.out.2.2; have := B.out; omega) (by have := F.out.2.2; have := B.out; omega)).mono ?_
  rintro e w2 ⟨rfl, hb⟩
  have HX2 := Aside0.mk (HX1.out.below hb)
  have HO2 := Aside0.mk (HO1.out.trans (On.of_below hb))
  clear hb HX1 HO1
  by_cases c1 : 1 < l.deep - r.deep
  · have c1t : ((1 : Int) < l.deep - r.deep) = True := eq_true c1
    have C1 := Aside0.mk c1
    clear c1
    cases l with
    | nil => exact absurd C1.out (by have := B.out; have hz : (Tr.nil : Tree).deep = 0 := rfl; omega)
    | node gy ky vy dy a b =>
      have c2 : w2.cell? ⟨g, 2, none⟩ = some (.pointer (some ⟨gy, 0, none⟩)) := (blk_cell HX2.out.1 2).trans rfl
      have fa := F.out.1.2.1.bounds
      have fb := F.out.1.2.2.bounds
      have cn : a.count + b.count + 1 ≤ 10000000000 := by have := F.out.2.2; simp [Tr.count] at this; omega
      have BB := Aside0.mk (And.intro fa (And.intro fb cn))
      clear fa fb cn
      go_wp2_with fail
      go_at_call 111
      refine (lean_calls gy ky vy dy a b w2 HX2.out.2.1.1 HX2.out.2.1.2.1.top HX2.out.2.1.2.2.top (by have := BB.out; omega) (by have := BB.out; omega)).mono ?_
      rintro e w3 ⟨rfl, hb⟩
      have HX3 := Aside0.mk (HX2.out.below hb)
      have HO3 := Aside0.mk (HO2.out.trans (On.of_below hb))
      clear hb HX2 HO2 c2
      have c2 : w3.cell? ⟨g, 2, none⟩ = some (.pointer (some ⟨gy, 0, none⟩)) := (blk_cell HX3.out.1 2).trans rfl
      by_cases c3 : a.deep - b.deep < (0 : Int)
      · have c3t : (a.deep - b.deep < (0 : Int)) = True := eq_true c3
        have C3 := Aside0.mk c3
        clear c3
        cases b with
        | nil => exact absurd C3.out (by have := BB.out; have hz : (Tr.nil : Tree).deep = 0 := rfl; omega)
        | node gz kz vz dz b1 b2 =>
          have f1 := F.out.1.2.2.2.1.bounds
          have f2 := F.out.1.2.2.2.2.bounds
          have cn : a.count + (b1.count + b2.count) ≤ 10000000000 := by have := BB.out.2.2; simp [Tr.count] at this; omega
          have BD := Aside0.mk (And.intro f1 (And.intro f2 (And.intro BB.out.1 cn)))
          clear f1 f2 cn
          go_wp2_with fail
          go_at_call 112
          refine (toLeft_calls gy gz ky kz vy vz dy dz b2 b1 a w3 HX3.out.2.1 N.out.2.2.1 (by have := BD.out; omega) (by have := BD.out; omega) (by have := BD.out; omega)).mono ?_
          rintro e w4 ⟨rfl, hl4, ho4⟩
          have hg4 := ho4.blk HX3.out.1 N.out.1
          have hr4 : Lies w4 r := HX3.out.2.2.on ho4 (fun q hq hq2 => N.out.2.2.2.2 q hq2 hq)
          have HO4 : Aside0 (On (· ∈ (Tr.node g k v d (.node gy ky vy dy a (.node gz kz vz dz b1 b2)) r : Tree).blocks) w w4) := ⟨HO3.out.trans (ho4.mono (fun q hq => List.mem_cons_of_mem _ (List.mem_append.mpr (.inl hq))))⟩
          have HX4 := Aside0.mk (And.intro hg4 (And.intro hl4 hr4))
          clear hl4 ho4 hg4 hr4 c2 HX3 HO3
          have d2 : w4.cell? ⟨g, 2, none⟩ = some (.pointer (some ⟨gy, 0, none⟩)) := (blk_cell HX4.out.1 2).trans rfl
          have df := blk_frozen HX4.out.1 2
          go_wp2_with fail
          clear d2 df
          obtain ⟨w5, hw5⟩ : ∃ W, W = w4.setCell ⟨g, 2, none⟩ (.pointer (some ⟨gz, 0, none⟩)) := ⟨_, rfl⟩
          have pb : (Tr.mk gz kz vz (.mk gy ky vy a b1) b2 : Tree).blocks.Perm (Tr.node gy ky vy dy a (.node gz kz vz dz b1 b2) : Tree).blocks := Tr.toLeft_blocks (.node gy ky vy dy a (.node gz kz vz dz b1 b2))
          have gz4 : g ∉ (Tr.mk gz kz vz (.mk gy ky vy a b1) b2 : Tree).blocks := fun q => N.out.1 (pb.mem_iff.1 q)
          have ho5 : On (fun q => q = g) w4 w5 := by rw [hw5]; exact On.set (P := fun q => q = g) (On.refl _ _) (p := ⟨g, 2, none⟩) rfl _
          have hx5 : Lies w5 (.node g k v (1 + max (Tr.deep (.node gy ky vy dy a (.node gz kz vz dz b1 b2))) (Tr.deep r)) (.mk gz kz vz (.mk gy ky vy a b1) b2) r) := ⟨by rw [hw5]; exact blk_put HX4.out.1 2 _ rfl, HX4.out.2.1.on ho5 (fun q hq e => gz4 (e ▸ hq)), HX4.out.2.2.on ho5 (fun q hq e => N.out.2.1 (e ▸ hq))⟩
          rw [← hw5]
          have hn5 : (Tr.node g k v (1 + max (Tr.deep (.node gy ky vy dy a (.node gz kz vz dz b1 b2))) (Tr.deep r)) (.mk gz kz vz (.mk gy ky vy a b1) b2) r : Tree).blocks.Nodup := Tr.of_parts ⟨gz4, N.out.2.1, (pb.nodup_iff.2 N.out.2.2.1), N.out.2.2.2.1, fun q hq => N.out.2.2.2.2 q (pb.mem_iff.1 hq)⟩
          have HO5 := Aside0.mk (HO4.out.trans (ho5.mono (fun q e => by rw [e]; simp [Tr.blocks])))
          have HX5 := Aside0.mk (And.intro hx5 hn5)
          have he : Tr.even g k v (.node gy ky vy dy a (.node gz kz vz dz b1 b2)) r = Tr.mk gz kz vz (.mk gy ky vy a b1) (.mk g k v b2 r) := by
            unfold Tr.even
            have h3 : (Tr.node gy ky vy dy a (.node gz kz vz dz b1 b2) : Tree).lean < 0 := C3.out
            rw [if_pos C1.out, if_pos h3]
            rfl
          have HE := Aside0.mk he
          have fm : (Tr.mk gy ky vy a b1 : Tree).Fit := Tr.mk_fit F.out.1.2.1 F.out.1.2.2.2.1
          have bm := fm.bounds
          have cm : (Tr.mk gy ky vy a b1 : Tree).count = a.count + b1.count + 1 := by simp [Tr.mk, Tr.count]
          have BM := Aside0.mk (And.intro bm cm)
          have TB : Aside0 (∀ q, q ∈ (Tr.node g k v (1 + max (Tr.deep (.node gy ky vy dy a (.node gz kz vz dz b1 b2))) (Tr.deep r)) (.mk gz kz vz (.mk gy ky vy a b1) b2) r : Tree).blocks → q ∈ (Tr.node g k v d (.node gy ky vy dy a (.node gz kz vz dz b1 b2)) r : Tree).blocks) := ⟨fun q hq => (Tr.blocks_sub pb (.refl _)).mem_iff.1 hq⟩
          clear hw5 pb gz4 ho5 hx5 hn5 he HX4 HO4 fm bm cm
          go_wp2_with fail
          go_at_call 113
          refine (toRight_calls g gz k kz v vz _ _ (.mk gy ky vy a b1) b2 r w5 HX5.out.1 HX5.out.2 (by have := BM.out; have := BD.out; omega) (by have := BD.out; omega) (by have := B.out; have := F.out.2.2; omega)).mono ?_
          rintro e w6 ⟨rfl, hl6, ho6⟩
          have HX6 := Aside0.mk hl6
          have HO6 := Aside0.mk (HO5.out.trans (ho6.mono TB.out))
          clear hl6 ho6 HX5 HO5 TB
          go_wp2
          go_ret
          rw [HE.out]
          exact ⟨rfl, HX6.out, HO6.out⟩
      · have c3t : (a.deep - b.deep < (0 : Int)) = False := eq_false c3
        have he : Tr.even g k v (.node gy ky vy dy a b) r = Tr.mk gy ky vy a (.mk g k v b r) := by
          unfold Tr.even
          have h3 : ¬ ((Tr.node gy ky vy dy a b : Tree).lean < 0) := c3
          rw [if_pos C1.out, if_neg h3]
          rfl
        have HE := Aside0.mk he
        clear c3 he
        go_wp2_with fail
        go_at_call 113
        refine (toRight_calls g gy k ky v vy _ dy a b r w3 HX3.out (Tr.of_parts N.out) (by have := BB.out; omega) (by have := BB.out; omega) (by have := B.out; have := F.out.2.2; omega)).mono ?_
        rintro e w6 ⟨rfl, hl6, ho6⟩
        have HX6 := Aside0.mk hl6
        have HO6 := Aside0.mk (HO3.out.trans ho6)
        clear hl6 ho6 HX3 HO3
        go_wp2
        go_ret
        rw [HE.out]
        exact ⟨rfl, HX6.out, HO6.out⟩
  · have c1t : ((1 : Int) < l.deep - r.deep) = False := eq_false c1
    have C1 := Aside0.mk c1
    clear c1
    go_wp2_with fail
    go_at_call 111
    refine (lean_calls g k v _ l r w2 HX2.out.1 HX2.out.2.1.top HX2.out.2.2.top (by have := F.out.2.2; have := B.out; omega) (by have := F.out.2.2; have := B.out; omega)).mono ?_
    rintro e w2' ⟨rfl, hb⟩
    have HX2 := Aside0.mk (HX2.out.below hb)
    have HO2 := Aside0.mk (HO2.out.trans (On.of_below hb))
    clear hb
    by_cases c2 : l.deep - r.deep < -1
    · have c2t : (l.deep - r.deep < (-1 : Int)) = True := eq_true c2
      have C2 := Aside0.mk c2
      clear c2
      cases r with
      | nil => exact absurd C2.out (by have := B.out; have hz : (Tr.nil : Tree).deep = 0 := rfl; omega)
      | node gy ky vy dy b a =>
        have c2 : w2'.cell? ⟨g, 3, none⟩ = some (.pointer (some ⟨gy, 0, none⟩)) := (blk_cell HX2.out.1 3).trans rfl
        have fa := F.out.2.1.2.2.bounds
        have fb := F.out.2.1.2.1.bounds
        have cn : a.count + b.count + 1 ≤ 10000000000 := by have := F.out.2.2; simp [Tr.count] at this; omega
        have BB := Aside0.mk (And.intro fa (And.intro fb cn))
        clear fa fb cn
        go_wp2_with fail
        go_at_call 111
        refine (lean_calls gy ky vy dy b a w2' HX2.out.2.2.1 HX2.out.2.2.2.1.top HX2.out.2.2.2.2.top (by have := BB.out; omega) (by have := BB.out; omega)).mono ?_
        rintro e w3 ⟨rfl, hb⟩
        have HX3 := Aside0.mk (HX2.out.below hb)
        have HO3 := Aside0.mk (HO2.out.trans (On.of_below hb))
        clear hb HX2 HO2 c2
        have c2 : w3.cell? ⟨g, 3, none⟩ = some (.pointer (some ⟨gy, 0, none⟩)) := (blk_cell HX3.out.1 3).trans rfl
        by_cases c3 : (0 : Int) < b.deep - a.deep
        · have c3t : ((0 : Int) < b.deep - a.deep) = True := eq_true c3
          have c3u : (a.deep < b.deep) = True := eq_true (by omega)
          have C3 := Aside0.mk c3
          clear c3
          cases b with
          | nil => exact absurd C3.out (by have := BB.out; have hz : (Tr.nil : Tree).deep = 0 := rfl; omega)
          | node gz kz vz dz b2 b1 =>
            have f1 := F.out.2.1.2.1.2.2.bounds
            have f2 := F.out.2.1.2.1.2.1.bounds
            have cn : a.count + (b1.count + b2.count) ≤ 10000000000 := by have := BB.out.2.2; simp [Tr.count] at this; omega
            have BD := Aside0.mk (And.intro f1 (And.intro f2 (And.intro BB.out.1 cn)))
            clear f1 f2 cn
            go_wp2_with fail
            go_at_call 113
            refine (toRight_calls gy gz ky kz vy vz dy dz b2 b1 a w3 HX3.out.2.2 N.out.2.2.2.1 (by have := BD.out; omega) (by have := BD.out; omega) (by have := BD.out; omega)).mono ?_
            rintro e w4 ⟨rfl, hl4, ho4⟩
            have hg4 := ho4.blk HX3.out.1 N.out.2.1
            have hr4 : Lies w4 l := HX3.out.2.1.on ho4 (fun q hq hq2 => N.out.2.2.2.2 q hq hq2)
            have HO4 : Aside0 (On (· ∈ (Tr.node g k v d l (.node gy ky vy dy (.node gz kz vz dz b2 b1) a) : Tree).blocks) w w4) := ⟨HO3.out.trans (ho4.mono (fun q hq => List.mem_cons_of_mem _ (List.mem_append.mpr (.inr hq))))⟩
            have HX4 := Aside0.mk (And.intro hg4 (And.intro hl4 hr4))
            clear hl4 ho4 hg4 hr4 c2 HX3 HO3
            have d2 : w4.cell? ⟨g, 3, none⟩ = some (.pointer (some ⟨gy, 0, none⟩)) := (blk_cell HX4.out.1 3).trans rfl
            have df := blk_frozen HX4.out.1 3
            go_wp2_with fail
            clear d2 df
            obtain ⟨w5, hw5⟩ : ∃ W, W = w4.setCell ⟨g, 3, none⟩ (.pointer (some ⟨gz, 0, none⟩)) := ⟨_, rfl⟩
            have pb : (Tr.mk gz kz vz b2 (.mk gy ky vy b1 a) : Tree).blocks.Perm (Tr.node gy ky vy dy (.node gz kz vz dz b2 b1) a : Tree).blocks := Tr.toRight_blocks (.node gy ky vy dy (.node gz kz vz dz b2 b1) a)
            have gz4 : g ∉ (Tr.mk gz kz vz b2 (.mk gy ky vy b1 a) : Tree).blocks := fun q => N.out.2.1 (pb.mem_iff.1 q)
            have ho5 : On (fun q => q = g) w4 w5 := by rw [hw5]; exact On.set (P := fun q => q = g) (On.refl _ _) (p := ⟨g, 3, none⟩) rfl _
            have hx5 : Lies w5 (.node g k v (1 + max (Tr.deep l) (Tr.deep (.node gy ky vy dy (.node gz kz vz dz b2 b1) a))) l (.mk gz kz vz b2 (.mk gy ky vy b1 a))) := ⟨by rw [hw5]; exact blk_put HX4.out.1 3 _ rfl, HX4.out.2.2.on ho5 (fun q hq e => N.out.1 (e ▸ hq)), HX4.out.2.1.on ho5 (fun q hq e => gz4 (e ▸ hq))⟩
            rw [← hw5]
            have hn5 : (Tr.node g k v (1 + max (Tr.deep l) (Tr.deep (.node gy ky vy dy (.node gz kz vz dz b2 b1) a))) l (.mk gz kz vz b2 (.mk gy ky vy b1 a)) : Tree).blocks.Nodup := Tr.of_parts ⟨N.out.1, gz4, N.out.2.2.1, (pb.nodup_iff.2 N.out.2.2.2.1), fun q hq hq2 => N.out.2.2.2.2 q hq (pb.mem_iff.1 hq2)⟩
            have HO5 := Aside0.mk (HO4.out.trans (ho5.mono (fun q e => by rw [e]; simp [Tr.blocks])))
            have HX5 := Aside0.mk (And.intro hx5 hn5)
            have he : Tr.even g k v l (.node gy ky vy dy (.node gz kz vz dz b2 b1) a) = Tr.mk gz kz vz (.mk g k v l b2) (.mk gy ky vy b1 a) := by
              unfold Tr.even
              have h3 : 0 < (Tr.node gy ky vy dy (.node gz kz vz dz b2 b1) a : Tree).lean := C3.out
              rw [if_neg (show ¬ ((1 : Int) < Tr.deep l - Tr.deep (.node gy ky vy dy (.node gz kz vz dz b2 b1) a)) by have := C1.out; omega), if_pos C2.out, if_pos h3]
              rfl
            have HE := Aside0.mk he
            have fm : (Tr.mk gy ky vy b1 a : Tree).Fit := Tr.mk_fit F.out.2.1.2.1.2.2 F.out.2.1.2.2
            have bm := fm.bounds
            have cm : (Tr.mk gy ky vy b1 a : Tree).count = a.count + b1.count + 1 := by simp [Tr.mk, Tr.count]; omega
            have BM := Aside0.mk (And.intro bm cm)
            have TB : Aside0 (∀ q, q ∈ (Tr.node g k v (1 + max (Tr.deep l) (Tr.deep (.node gy ky vy dy (.node gz kz vz dz b2 b1) a))) l (.mk gz kz vz b2 (.mk gy ky vy b1 a)) : Tree).blocks → q ∈ (Tr.node g k v d l (.node gy ky vy dy (.node gz kz vz dz b2 b1) a) : Tree).blocks) := ⟨fun q hq => (Tr.blocks_sub (.refl _) pb).mem_iff.1 hq⟩
            clear hw5 pb gz4 ho5 hx5 hn5 he HX4 HO4 fm bm cm
            go_wp2_with fail
            go_at_call 112
            refine (toLeft_calls g gz k kz v vz _ _ (.mk gy ky vy b1 a) b2 l w5 HX5.out.1 HX5.out.2 (by have := BM.out; have := BD.out; omega) (by have := BD.out; omega) (by have := B.out; have := F.out.2.2; omega)).mono ?_
            rintro e w6 ⟨rfl, hl6, ho6⟩
            have HX6 := Aside0.mk hl6
            have HO6 := Aside0.mk (HO5.out.trans (ho6.mono TB.out))
            clear hl6 ho6 HX5 HO5 TB
            go_wp2
            go_ret
            rw [HE.out]
            exact ⟨rfl, HX6.out, HO6.out⟩
        · have c3t : ((0 : Int) < b.deep - a.deep) = False := eq_false c3
          have c3u : (a.deep < b.deep) = False := eq_false (by omega)
          have he : Tr.even g k v l (.node gy ky vy dy b a) = Tr.mk gy ky vy (.mk g k v l b) a := by
            unfold Tr.even
            have h3 : ¬ (0 < (Tr.node gy ky vy dy b a : Tree).lean) := c3
            rw [if_neg (show ¬ ((1 : Int) < Tr.deep l - Tr.deep (.node gy ky vy dy b a)) by have := C1.out; omega), if_pos C2.out, if_neg h3]
            rfl
          have HE := Aside0.mk he
          clear c3 he
          go_wp2_with fail
          go_at_call 112
          refine (toLeft_calls g gy k ky v vy _ dy a b l w3 HX3.out (Tr.of_parts N.out) (by have := BB.out; omega) (by have := BB.out; omega) (by have := B.out; have := F.out.2.2; omega)).mono ?_
          rintro e w6 ⟨rfl, hl6, ho6⟩
          have HX6 := Aside0.mk hl6
          have HO6 := Aside0.mk (HO3.out.trans ho6)
          clear hl6 ho6 HX3 HO3
          go_wp2
          go_ret
          rw [HE.out]
          exact ⟨rfl, HX6.out, HO6.out⟩
    · have c2t : (l.deep - r.deep < (-1 : Int)) = False := eq_false c2
      have C2 := Aside0.mk c2
      clear c2
      have he : Tr.even g k v l r = Tr.mk g k v l r := by unfold Tr.even; rw [if_neg (by have := C1.out; omega), if_neg (by have := C2.out; omega)]
      have HE := Aside0.mk he
      clear he
      go_wp2_with fail
      go_wp2
      go_ret
      rw [HE.out]
      exact ⟨rfl, HX2.out, HO2.out⟩

end Go.Proofs.YtbajekndbamcmaaW.GroveIS
