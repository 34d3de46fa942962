/- Where, Inner, errors in places, walked. Conditions: as each lemma says. -/
import Derived.Test.YtcflljjfhnifjaaDoorFFn
set_option linter.unusedVariables false
set_option linter.unusedSimpArgs false
namespace Go.Proofs.YtcflljjfhnifjaaDoor.F
open Go.RowKit Go.Extern.Stop Go.Stop Go.Extern Go.Proofs.YtcflljjfhnifjaaDoorW.PrintWords

theorem ErV.put {W : World} {p : Addr} {u : Value} {cs : Array Value} {ty : TypeId} {fz : Nat × Nat} (hp : W.heap[p.block]? = some (.cells cs ty fz)) (hty : ty ≠ 41) : ∀ (e : Er) (v : Value), ErV W e v → ErV (W.setCell p u) e v
  | .code n, v, h => h
  | .at_ l k e, v, h => by
    obtain ⟨g, v', h1, h2, h3⟩ := h
    refine ⟨g, v', h1, (Below.heap_setCell W p u g ?_).trans h2, ErV.put hp hty e v' h3⟩
    rintro rfl
    rw [hp] at h2
    injection h2 with h2
    injection h2 with _ h2 _
    exact hty h2
  | .other e, v, h => by
    obtain ⟨v', h1, h3⟩ := h
    exact ⟨v', h1, ErV.put hp hty e v' h3⟩
  | .none_, v, h => h
def whereV : Option (ByteArray × Int × Er) → Value
  | none => .tuple #[.string ⟨#[]⟩, .int .i64 0, .bool false]
  | some x => .tuple #[.string x.1, .int .i64 x.2.1, .bool true]
theorem where_any (o : Option Er) (v : Value) (W : World) (hg : Hx W) (h : EV W o v) :
    Calls Tryd.prog 9 #[v] W fun e w' => e = .returned (whereV (outE o)) ∧ Below W.heap.size W w' := by
  have hb0 := below_alloc (Below.refl W.heap.size W) (.cells #[.pointer none] 37 (0, 0))
  cases o with
  | none =>
    obtain rfl : v = .nilIface := h
    go_enter Tryd.func9, Tryd.ntmps9
    go_wp2_with (go_at_call 14; refine (as_nil _ _).mono ?_; rintro ev w9 ⟨rfl, rfl⟩)
    (try simp only [Exit.inBlock, Exit.then])
    refine bodyPost_ret (v := whereV none) ?_ rfl ⟨rfl, hb0⟩
    simp [results, Tryd.results9, go_sem, whereV]
  | some e =>
    have h' : ErV W e v := h
    obtain ⟨T, x, rfl⟩ := h'.form
    have HE := Lib.hid (ErV.below hb0 e _ h')
    have HG := Lib.hid (hg.below (n := 0) hb0)
    have HB := Lib.hid hb0
    have HC := Lib.hid (show (W.alloc (.cells #[.pointer none] 37 (0, 0))).cell? ⟨W.heap.size, 0, none⟩ = some (.pointer none) ∧ (W.alloc (.cells #[.pointer none] 37 (0, 0))).frozen? ⟨W.heap.size, 0, none⟩ = false by simp)
    clear h h' hb0
    have hcalls := asAt_any e _ ⟨W.heap.size, 0, none⟩ _ _ HG.out HE.out HC.out.1 HC.out.2
    have HCalls := Lib.hid hcalls
    clear hcalls
    go_enter Tryd.func9, Tryd.ntmps9
    go_wp2_with fail
    refine HCalls.out.mono ?_
    rintro ev w9 (⟨h1, rfl, hb1⟩ | ⟨l, k, e1, g, v1, w1, h1, rfl, hb1, rfl, h2, h3⟩)
    · have HB1 := Lib.hid hb1
      have H1 := Lib.hid h1
      clear hb1 h1
      go_wp2_with fail
      (try simp only [Exit.inBlock, Exit.then])
      refine bodyPost_ret (v := whereV none) ?_ rfl ⟨by rw [show outE (some e) = none from H1.out], below_step HB.out HB1.out⟩
      simp [results, Tryd.results9, go_sem, whereV]
    · have hcl := put_cell (v := .pointer (some ⟨g, 0, none⟩)) ((hb1.cell (p := ⟨W.heap.size, 0, none⟩) (by simp)).trans HC.out.1)
      have hgne : g ≠ W.heap.size := by
        rintro rfl
        have hx := (hb1.block W.heap.size (by simp)).trans (show (W.alloc (.cells #[.pointer none] 37 (0, 0))).heap[W.heap.size]? = _ from heap_alloc_new W _)
        rw [h2] at hx
        simp at hx
      have hh : (w1.setCell ⟨W.heap.size, 0, none⟩ (.pointer (some ⟨g, 0, none⟩))).heap[g]? = some (atC l k v1) := (Below.heap_setCell w1 ⟨W.heap.size, 0, none⟩ _ g hgne).trans h2
      obtain ⟨k0, k1, k2⟩ := at_cells hh
      have HB1 := Lib.hid hb1
      have H1 := Lib.hid h1
      clear hb1 h1 h2 h3 hh
      generalize hw2 : w1.setCell ⟨W.heap.size, 0, none⟩ (.pointer (some ⟨g, 0, none⟩)) = w2 at *
      have HW2 := Lib.hid hw2
      clear hw2
      go_upto_region 4 with fail
      go_quiet (fail)
      go_wp2_with fail
      (try simp only [Exit.inBlock, Exit.then])
      refine bodyPost_ret (v := whereV (some (l, k, e1))) ?_ rfl ⟨by rw [show outE (some e) = some (l, k, e1) from H1.out], ?_⟩
      · simp [results, Tryd.results9, go_sem, whereV]
      rw [← HW2.out]
      exact pw_below_drewN ((below_step HB.out HB1.out).setCell (p := ⟨W.heap.size, 0, none⟩) (Nat.le_refl _) _) _
theorem inner_any (o : Option Er) (v : Value) (W : World) (hg : Hx W) (h : EV W o v) :
    Calls Tryd.prog 10 #[v] W fun e w' => ∃ v1, e = .returned v1 ∧ EV w' (innerE o) v1 ∧ Below W.heap.size W w' := by
  have hb0 := below_alloc (Below.refl W.heap.size W) (.cells #[.pointer none] 37 (0, 0))
  cases o with
  | none =>
    obtain rfl : v = .nilIface := h
    go_enter Tryd.func10, Tryd.ntmps10
    go_wp2_with (go_at_call 14; refine (as_nil _ _).mono ?_; rintro ev w9 ⟨rfl, rfl⟩)
    go_ret
    exact ⟨_, rfl, rfl, hb0⟩
  | some e =>
    have h' : ErV W e v := h
    obtain ⟨T, x, rfl⟩ := h'.form
    have HE := Lib.hid (ErV.below hb0 e _ h')
    have HG := Lib.hid (hg.below (n := 0) hb0)
    have HB := Lib.hid hb0
    have HC := Lib.hid (show (W.alloc (.cells #[.pointer none] 37 (0, 0))).cell? ⟨W.heap.size, 0, none⟩ = some (.pointer none) ∧ (W.alloc (.cells #[.pointer none] 37 (0, 0))).frozen? ⟨W.heap.size, 0, none⟩ = false by simp)
    clear h h' hb0
    have hcalls := asAt_any e _ ⟨W.heap.size, 0, none⟩ _ _ HG.out HE.out HC.out.1 HC.out.2
    have HCalls := Lib.hid hcalls
    clear hcalls
    go_enter Tryd.func10, Tryd.ntmps10
    go_wp2_with fail
    refine HCalls.out.mono ?_
    rintro ev w9 (⟨h1, rfl, hb1⟩ | ⟨l, k, e1, g, v1, w1, h1, rfl, hb1, rfl, h2, h3⟩)
    · have HB1 := Lib.hid hb1
      have H1 := Lib.hid h1
      clear hb1 h1
      go_wp2_with fail
      go_ret
      refine ⟨_, rfl, ?_, below_step HB.out HB1.out⟩
      unfold innerE
      rw [show outE (some e) = none from H1.out]
      exact ErV.below HB1.out e _ HE.out
    · have hcl := put_cell (v := .pointer (some ⟨g, 0, none⟩)) ((hb1.cell (p := ⟨W.heap.size, 0, none⟩) (by simp)).trans HC.out.1)
      have hgne : g ≠ W.heap.size := by
        rintro rfl
        have hx := (hb1.block W.heap.size (by simp)).trans (show (W.alloc (.cells #[.pointer none] 37 (0, 0))).heap[W.heap.size]? = _ from heap_alloc_new W _)
        rw [h2] at hx
        simp at hx
      have hh : (w1.setCell ⟨W.heap.size, 0, none⟩ (.pointer (some ⟨g, 0, none⟩))).heap[g]? = some (atC l k v1) := (Below.heap_setCell w1 ⟨W.heap.size, 0, none⟩ _ g hgne).trans h2
      obtain ⟨k0, k1, k2⟩ := at_cells hh
      have HB1 := Lib.hid hb1
      have H1 := Lib.hid h1
      have HE1 := Lib.hid (ErV.put (p := ⟨W.heap.size, 0, none⟩) (u := .pointer (some ⟨g, 0, none⟩)) ((hb1.block W.heap.size (by simp)).trans (show (W.alloc (.cells #[.pointer none] 37 (0, 0))).heap[W.heap.size]? = some (.cells #[.pointer none] 37 (0, 0)) from heap_alloc_new W _)) (by decide) e1 v1 h3)
      have HBE := Lib.hid (show Below W.heap.size W (w1.setCell ⟨W.heap.size, 0, none⟩ (.pointer (some ⟨g, 0, none⟩))) from (below_step HB.out hb1).setCell (p := ⟨W.heap.size, 0, none⟩) (Nat.le_refl _) _)
      clear hb1 h1 h2 h3 hh
      generalize w1.setCell ⟨W.heap.size, 0, none⟩ (.pointer (some ⟨g, 0, none⟩)) = w2 at *
      go_wp2_with fail
      go_ret
      refine ⟨_, rfl, ?_, HBE.out⟩
      unfold innerE
      rw [show outE (some e) = some (l, k, e1) from H1.out]
      exact HE1.out
end Go.Proofs.YtcflljjfhnifjaaDoor.F
