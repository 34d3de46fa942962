/- The law SrcNests, walked: it answers true. Conditions: none. -/
import Derived.Test.YtjbbogcoabgcnaaSOps
set_option linter.unusedVariables false
set_option linter.unusedSimpArgs false
namespace Go.Proofs.Ytjbbogcoabgcnaa.S
open Go.RowKit Go.Proofs.YtjbbogcoabgcnaaW.PrintWords Go.Proofs.Ytjbbogcoabgcnaa.L Go.Proofs.Ytjbbogcoabgcnaa.Src

theorem opens_app (n : Nat) (a b : List Int) : opens n a ++ b = opens n (a ++ b) := by
  induction n with
  | zero => rfl
  | succ n ih => simp only [opens, List.cons_append, ih]
theorem opens_snoc (n : Nat) (a : List Int) : opens n (47 :: 42 :: 32 :: 97 :: 32 :: a) = opens (n + 1) a := by
  induction n with
  | zero => rfl
  | succ n ih => rw [opens, ih]; rfl
theorem shuts_app (n : Nat) (a b : List Int) : shuts n a ++ b = shuts n (a ++ b) := by
  induction n with
  | zero => rfl
  | succ n ih => simp only [shuts, List.cons_append, ih]
theorem shuts_snoc (n : Nat) (a : List Int) : shuts n (42 :: 47 :: 32 :: a) = shuts (n + 1) a := by
  induction n with
  | zero => rfl
  | succ n ih => rw [shuts, ih]; rfl
/-- The law's bytes ahead of the last two. -/
def nstB (d : Nat) (b : Bool) : List Int := opens (d + 1) (if b then shuts (d + 1) [] else [])
theorem nstB_length (d : Nat) (b : Bool) : (nstB d b).length = 5 * (d + 1) + (if b then 3 * (d + 1) else 0) := by
  unfold nstB
  rw [opens_length]
  cases b
  · rfl
  · simp [shuts_length]
def nstW (r d : Nat) (b : Bool) : Int := if r = 0 ∧ 32 < d + 1 then 6 else if b then 4 else 1
theorem nst_ends (r d : Nat) (b : Bool) (hr : r < 3) : ∃ F, famOf (sel3 8 4 5 r) = some F ∧ Src.Ends (lexF F (-1) (nstB d b ++ [32, 120])) ((nstB d b).length + 1) (nstW r d b) := by
  have hB : nstB d b ++ [32, 120] = opens (d + 1) (if b then shuts (d + 1) [32, 120] else [32, 120]) := by
    unfold nstB
    rw [opens_app]
    cases b
    · rfl
    · simp only [if_true]; rw [shuts_app]; rfl
  rw [hB, nstB_length]
  unfold nstW
  have e5 : 5 * (d + 1) + 0 + 1 = 5 * d + 6 := by omega
  have e8 : 5 * (d + 1) + 3 * (d + 1) + 1 = 8 * d + 9 := by omega
  have hr' : r = 0 ∨ r = 1 ∨ r = 2 := by omega
  cases b with
  | false =>
    simp only [Bool.false_eq_true, if_false]
    rw [e5]
    rcases hr' with rfl | rfl | rfl
    · refine ⟨famQ, rfl, ?_⟩
      by_cases h32 : 32 ≤ d
      · rw [if_pos ⟨rfl, by omega⟩]
        exact nests_sql_deep d h32 []
      · rw [if_neg (by omega)]
        exact nests_sql_open d (by omega)
    · refine ⟨famC, rfl, ?_⟩
      rw [if_neg (by omega)]
      exact nests_open famC (.inl rfl) d
    · refine ⟨famG, rfl, ?_⟩
      rw [if_neg (by omega)]
      exact nests_open famG (.inr rfl) d
  | true =>
    simp only [if_true]
    rcases hr' with rfl | rfl | rfl
    · refine ⟨famQ, rfl, ?_⟩
      by_cases h32 : 32 ≤ d
      · rw [if_pos ⟨rfl, by omega⟩]
        have := nests_sql_deep d h32 (shuts (d + 1) [])
        rw [shuts_app, shuts_length] at this
        have e : 5 * (d + 1) + 3 * (d + 1) + 1 = 5 * d + (3 * (d + 1) + ([] : List Int).length) + 6 := by simp only [List.length_nil]; omega
        rw [e]
        exact this
      · rw [if_neg (by omega), e8]
        exact nests_sql_shut d (by omega)
    · refine ⟨famC, rfl, ?_⟩
      rw [if_neg (by omega), e8]
      exact nests_shut famC (.inl rfl) d
    · refine ⟨famG, rfl, ?_⟩
      rw [if_neg (by omega), e8]
      exact nests_shut famG (.inr rfl) d

set_option maxRecDepth 100000 in
set_option maxHeartbeats 4000000 in
theorem srcNests_any (f q : Nat) (b : Bool) (w : World) (hf : f < 256) (hq : q < 256) :
    Calls Try.prog 4 #[.int .u8 f, .int .u8 q, .bool b] w fun e w' => e = .returned (.bool true) ∧ Below w.heap.size w w' := by
  go_enter Try.func4, Try.ntmps4
  go_wp2_with fail
  refine (awake_any _).mono ?_
  rintro e w1 ⟨rfl, hbw⟩
  have HW := Lib.hid hbw
  clear hbw
  go_upto_region 3 with fail
  obtain ⟨r, hr⟩ : ∃ r : Nat, (f : Int) % 3 = (r : Int) := ⟨f % 3, by omega⟩
  have hr3 : r < 3 := by omega
  obtain ⟨d, hd⟩ : ∃ d : Nat, (q : Int) % 40 = (d : Int) := ⟨q % 40, by omega⟩
  have hd40 : d < 40 := by omega
  have HR := Lib.hid hr
  have HD := Lib.hid hd
  clear hr hd
  go_cut [7] (fun kv wx => kv = .int .u8 (sel3 8 4 5 r) ∧ Hid (Below w.heap.size w wx))
  case first =>
    have hr := HR.out
    have hcell : (w1.alloc (.cells #[.int .u8 8, .int .u8 4, .int .u8 5] 28 (0, 0))).cell? ⟨w1.heap.size, r, none⟩ = some (.int .u8 (sel3 8 4 5 r)) := by
      rw [blk_cell (blk_new w1 _)]
      exact at3 8 4 5 r hr3
    go_wp2_with fail
    go_meet
    exact ⟨rfl, below_alloc HW.out _⟩
  case rest =>
    obtain ⟨rfl, HW2⟩ := hcut
    clear HW
    obtain ⟨F, hFE⟩ := nst_ends r d b hr3
    have HFE := Lib.hid hFE
    have HQ := Lib.hid (show (sel3 8 4 5 r == 8) = decide (r = 0) from by
      match r, hr3 with
      | 0, _ => rfl
      | 1, _ => rfl
      | 2, _ => rfl)
    clear hFE
    generalize sel3 8 4 5 r = fm at *
    go_upto_region 4 with fail
    go_cut [8] (fun kv wx => kv = .int .i64 ((d + 1 : Nat) : Int) ∧ Hid (Below w.heap.size w wx))
    case first =>
      have hd := HD.out
      go_wp2_with fail
      go_meet
      exact ⟨by go_num, HW2⟩
    case rest =>
      obtain ⟨rfl, HW3⟩ := hcut
      clear HW2
      obtain ⟨n, hn⟩ : ∃ n, n = d + 1 := ⟨_, rfl⟩
      rw [← hn]
      have hn40 : n ≤ 40 := by omega
      have HN := Lib.hid hn
      clear hn
      go_wp2_with fail
      go_loopg [9, 27] n (fun gn v iv wr => ∃ (j : Nat) (t : ByteArray), v = .string t ∧ iv = .int .i64 j ∧ j ≤ n ∧ t.size ≤ 5 * j ∧ Hid (bytesOf t = opens j [] ∧ Below w.heap.size w wr ∧ gn = n - j))
      case atStart => exact ⟨0, ⟨#[]⟩, rfl, rfl, Nat.zero_le _, Nat.zero_le _, rfl, HW3.out, rfl⟩
      case round =>
        obtain ⟨j, t, rfl, rfl, hj, ht, HJ⟩ := hrel
        by_cases hlt : j < n
        · go_wp2_with fail
          go_roundg (n - (j + 1))
          case measure => have := HJ.out.2.2; omega
          case rel =>
            refine ⟨j + 1, _, rfl, by go_num, by omega, ?_, ?_, HJ.out.2.1, rfl⟩
            · rw [ByteArray.size_append]
              have e : (⟨#[47, 42, 32, 97, 32]⟩ : ByteArray).size = 5 := rfl
              omega
            · rw [bytesOf_append, HJ.out.1, opens_app]
              exact opens_snoc j []
        · obtain rfl : j = n := by omega
          have H1 := Lib.hid (And.intro HJ.out.1 HJ.out.2.1)
          clear HJ HW3
          go_wp2_with fail
          go_loopg [9, 33] j (fun gn v iv wr => ∃ (i : Nat) (t : ByteArray), v = .string t ∧ iv = .int .i64 i ∧ i ≤ j ∧ t.size ≤ 5 * j + 3 * i ∧ Hid (bytesOf t = opens j (if b then shuts i [] else []) ∧ Below w.heap.size w wr ∧ gn = j - i))
          case atStart => exact ⟨0, t, rfl, rfl, Nat.zero_le _, by omega, by rw [H1.out.1]; cases b <;> rfl, H1.out.2, rfl⟩
          case round =>
            obtain ⟨i, t2, rfl, rfl, hi, ht2, HI⟩ := hrel
            clear H1
            by_cases hlt : i < j
            · cases b with
              | false =>
                go_wp2_with fail
                go_roundg (j - (i + 1))
                case measure => have := HI.out.2.2; omega
                case rel => exact ⟨i + 1, _, rfl, by go_num, by omega, by omega, HI.out.1, HI.out.2.1, rfl⟩
              | true =>
                go_wp2_with fail
                go_roundg (j - (i + 1))
                case measure => have := HI.out.2.2; omega
                case rel =>
                  refine ⟨i + 1, _, rfl, by go_num, by omega, ?_, ?_, HI.out.2.1, rfl⟩
                  · rw [ByteArray.size_append]
                    have e : (⟨#[42, 47, 32]⟩ : ByteArray).size = 3 := rfl
                    omega
                  · rw [bytesOf_append, HI.out.1, opens_app]
                    simp only [if_true]
                    rw [shuts_app]
                    exact congrArg (opens j) (shuts_snoc i [])
            · obtain rfl : i = j := by omega
              have HB := Lib.hid (show bytesOf t2 = nstB d b from by rw [HI.out.1, HN.out]; rfl)
              have HW4 := Lib.hid HI.out.2.1
              have hsz : t2.size = (nstB d b).length := by rw [← HB.out, bytesOf_length]
              have HSz := Lib.hid hsz
              have kc := conv_run (t2 ++ ⟨#[32, 120]⟩)
              have hs3 : (t2 ++ (⟨#[32, 120]⟩ : ByteArray)).size ≤ 1000 := by
                rw [ByteArray.size_append]
                have e : (⟨#[32, 120]⟩ : ByteArray).size = 2 := rfl
                omega
              have HS3 := Lib.hid hs3
              have hbb : bytesOf (t2 ++ ⟨#[32, 120]⟩) = nstB d b ++ [32, 120] := by rw [bytesOf_append, HB.out]; rfl
              have HBB := Lib.hid hbb
              clear HI hsz hs3 hbb
              generalize hT : t2 ++ (⟨#[32, 120]⟩ : ByteArray) = T at *
              have HT := Lib.hid hT
              go_wp2_with fail
              have hC := conv_C wr T (by have := HS3.out; omega)
              rw [HBB.out] at hC
              refine (lex_any fm F _ _ T.size _ _ HFE.out.1 hC (grownCap_ge _ _ _ _) (by rw [← HBB.out]; exact Bys.of T) (by have := HS3.out; omega)).mono ?_
              rintro e w6 ⟨g, k, rfl, hs, hb6, _, _⟩
              have HS := Lib.hid (And.intro hs (below_step (bytes_below HW4.out HW4.out.size _ _) hb6))
              have HE := Lib.hid HFE.out.2
              have g0 := Lib.hid HE.out.2.2.1
              have g3 := Lib.hid HE.out.2.2.2
              have gl := Lib.hid (show (lexF F (-1) (nstB d b ++ [32, 120]))[t2.size + 1]? = some (nstW r d b) from by rw [HSz.out]; exact HE.out.2.1)
              clear hs hb6 hC kc hT
              have hq := HQ.out
              go_wp2_with fail
              refine (at_in g k _ (t2.size + 1) (nstW r d b) _ HS.out.1 gl.out).mono ?_
              rintro e w' ⟨rfl, rfl⟩
              have hr1 : nstW r d b = if r = 0 ∧ 32 < d + 1 then 6 else if b then 4 else 1 := rfl
              by_cases h0 : r = 0
              · have hq1 : (fm == 8) = true := by rw [hq]; simp [h0]
                by_cases h32 : 32 < i
                · have hw : nstW r d b = 6 := by rw [hr1, if_pos ⟨h0, by have := HN.out; omega⟩]
                  have HWw := Lib.hid hw
                  rw [hw]
                  clear hq hr1 hw
                  go_wp2_with fail
                  refine (at_in g k _ 0 3 _ HS.out.1 g0.out).mono ?_
                  rintro e w' ⟨rfl, rfl⟩
                  go_wp2_with fail
                  refine (at_in g k _ 3 1 _ HS.out.1 g3.out).mono ?_
                  rintro e w' ⟨rfl, rfl⟩
                  go_wp2_with fail
                  go_ret
                  exact ⟨rfl, HS.out.2⟩
                · have hw : nstW r d b = if b then 4 else 1 := by rw [hr1, if_neg (by have := HN.out; omega)]
                  have HWw := Lib.hid hw
                  rw [hw]
                  clear hq hr1 hw
                  cases b with
                  | false =>
                    simp only [Bool.false_eq_true, if_false]
                    go_wp2_with fail
                    refine (at_in g k _ 0 3 _ HS.out.1 g0.out).mono ?_
                    rintro e w' ⟨rfl, rfl⟩
                    go_wp2_with fail
                    refine (at_in g k _ 3 1 _ HS.out.1 g3.out).mono ?_
                    rintro e w' ⟨rfl, rfl⟩
                    go_wp2_with fail
                    go_ret
                    exact ⟨rfl, HS.out.2⟩
                  | true =>
                    simp only [if_true]
                    go_wp2_with fail
                    refine (at_in g k _ 0 3 _ HS.out.1 g0.out).mono ?_
                    rintro e w' ⟨rfl, rfl⟩
                    go_wp2_with fail
                    refine (at_in g k _ 3 1 _ HS.out.1 g3.out).mono ?_
                    rintro e w' ⟨rfl, rfl⟩
                    go_wp2_with fail
                    go_ret
                    exact ⟨rfl, HS.out.2⟩
              · have hq1 : (fm == 8) = false := by rw [hq]; simp [h0]
                have hw : nstW r d b = if b then 4 else 1 := by rw [hr1, if_neg (by omega)]
                have HWw := Lib.hid hw
                rw [hw]
                clear hq hr1 hw
                cases b with
                | false =>
                  simp only [Bool.false_eq_true, if_false]
                  go_wp2_with fail
                  refine (at_in g k _ 0 3 _ HS.out.1 g0.out).mono ?_
                  rintro e w' ⟨rfl, rfl⟩
                  go_wp2_with fail
                  refine (at_in g k _ 3 1 _ HS.out.1 g3.out).mono ?_
                  rintro e w' ⟨rfl, rfl⟩
                  go_wp2_with fail
                  go_ret
                  exact ⟨rfl, HS.out.2⟩
                | true =>
                  simp only [if_true]
                  go_wp2_with fail
                  refine (at_in g k _ 0 3 _ HS.out.1 g0.out).mono ?_
                  rintro e w' ⟨rfl, rfl⟩
                  go_wp2_with fail
                  refine (at_in g k _ 3 1 _ HS.out.1 g3.out).mono ?_
                  rintro e w' ⟨rfl, rfl⟩
                  go_wp2_with fail
                  go_ret
                  exact ⟨rfl, HS.out.2⟩
end Go.Proofs.Ytjbbogcoabgcnaa.S
namespace Go.Proofs.Ytjbbogcoabgcnaa.Wk.SrcNests
open Go.RowKit Go.Proofs.YtjbbogcoabgcnaaW.PrintWords Go.Proofs.Ytjbbogcoabgcnaa.S
theorem walk (a0 a1 : Int) (a2 : Bool) (w : World) (h0 : (Lit.int .u8 a0).wf = true) (h1 : (Lit.int .u8 a1).wf = true) :
    Calls Try.prog 4 #[.int .u8 a0, .int .u8 a1, .bool a2] w fun e w' => e = .returned (.bool true) ∧ Below w.heap.size w w' := by
  obtain ⟨n, rfl, hn⟩ := u8_of h0
  obtain ⟨m, rfl, hm⟩ := u8_of h1
  exact srcNests_any n m a2 w hn hm
end Go.Proofs.Ytjbbogcoabgcnaa.Wk.SrcNests
