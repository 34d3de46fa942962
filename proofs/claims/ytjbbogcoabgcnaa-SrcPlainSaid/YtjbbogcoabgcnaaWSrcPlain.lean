/- The law SrcPlain, walked: it answers true. Conditions: none. -/
import Derived.Test.YtjbbogcoabgcnaaSMo
set_option linter.unusedVariables false
set_option linter.unusedSimpArgs false
namespace Go.Proofs.Ytjbbogcoabgcnaa.S
open Go.RowKit Go.Proofs.YtjbbogcoabgcnaaW.PrintWords Go.Proofs.Ytjbbogcoabgcnaa.L Go.Proofs.Ytjbbogcoabgcnaa.Src

def plF (r : Nat) : Int := [4, 5, 6, 7, 8].getD r 0
theorem plF_eq (r : Nat) (h : r < 5) : plF r = 4 + (r : Int) := by
  match r, h with
  | 0, _ => rfl
  | 1, _ => rfl
  | 2, _ => rfl
  | 3, _ => rfl
  | 4, _ => rfl
def plM (r : Nat) : ByteArray := [(⟨#[47, 47]⟩ : ByteArray), ⟨#[47, 47]⟩, ⟨#[35]⟩, ⟨#[35]⟩, ⟨#[45, 45]⟩].getD r ByteArray.empty
def plS : List ByteArray := [⟨#[97]⟩, ⟨#[49]⟩, ⟨#[32]⟩, ⟨#[10]⟩, ⟨#[43, 32]⟩, ⟨#[40]⟩, ⟨#[41]⟩, ⟨#[123, 125]⟩, ⟨#[120, 32, 61, 32, 121]⟩, ⟨#[59]⟩, ⟨#[92]⟩]
def plP (c : Nat) : ByteArray := plS.getD c ByteArray.empty
def ntC (c : Nat) : Int := [97, 98, 32, 34, 39, 47, 42].getD c 0
theorem plP_size (c : Nat) (h : c < 11) : (plP c).size ≤ 5 := by
  match c, h with
  | 0, _ | 1, _ | 2, _ | 3, _ | 4, _ | 5, _ | 6, _ | 7, _ | 8, _ | 9, _ | 10, _ => decide
theorem ntC_ok (c : Nat) (h : c < 7) : 0 ≤ ntC c ∧ ntC c < 256 ∧ ntC c ≠ 10 := by
  match c, h with
  | 0, _ | 1, _ | 2, _ | 3, _ | 4, _ | 5, _ | 6, _ => decide
def tx (l : List Int) : List Int := (l.take 100).flatMap fun c => bytesOf (plP (c.toNat % 11))
theorem tx_far (l : List Int) (j : Nat) (h : 100 ≤ j) : tx (l.take (j + 1)) = tx (l.take j) := by
  unfold tx
  rw [List.take_take, List.take_take, Nat.min_eq_left (by omega), Nat.min_eq_left (by omega)]
theorem tx_snoc (l : List Int) (j : Nat) (h : j < 100) (hl : j < l.length) : tx (l.take (j + 1)) = tx (l.take j) ++ bytesOf (plP ((l.getD j 0).toNat % 11)) := by
  unfold tx
  rw [List.take_take, List.take_take, Nat.min_eq_right (by omega), Nat.min_eq_right (by omega), List.take_add_one, List.getElem?_eq_getElem hl, List.flatMap_append, List.getD_eq_getElem?_getD, List.getElem?_eq_getElem hl]
  simp
def nt (l : List Int) : List Int := (l.take 50).map fun c => ntC (c.toNat % 7)
theorem nt_far (l : List Int) (j : Nat) (h : 50 ≤ j) : nt (l.take (j + 1)) = nt (l.take j) := by
  unfold nt
  rw [List.take_take, List.take_take, Nat.min_eq_left (by omega), Nat.min_eq_left (by omega)]
theorem nt_snoc (l : List Int) (j : Nat) (h : j < 50) (hl : j < l.length) : nt (l.take (j + 1)) = nt (l.take j) ++ [ntC ((l.getD j 0).toNat % 7)] := by
  unfold nt
  rw [List.take_take, List.take_take, Nat.min_eq_right (by omega), Nat.min_eq_right (by omega), List.take_add_one, List.getElem?_eq_getElem hl, List.map_append, List.getD_eq_getElem?_getD, List.getElem?_eq_getElem hl]
  simp
theorem nt_not (l : List Int) : (10 : Int) ∉ nt l := by
  unfold nt
  intro h
  obtain ⟨c, _, e⟩ := List.mem_map.1 h
  exact (ntC_ok _ (Nat.mod_lt _ (by decide))).2.2 e
structure PlOk (F : Fam) (m : List Int) : Prop where
  hl : F.line = [m]
  hm : m ≠ []
  pl : ∀ c, c < 11 → (bytesOf (plP c)).all (fun c => !(firsts F).contains (some c)) = true
  h32 : some (32 : Int) ∉ firsts F
  le : m.length ≤ 2
theorem all11 (P : Nat → Prop) (h : P 0 ∧ P 1 ∧ P 2 ∧ P 3 ∧ P 4 ∧ P 5 ∧ P 6 ∧ P 7 ∧ P 8 ∧ P 9 ∧ P 10) : ∀ c, c < 11 → P c := by
  obtain ⟨h0, h1, h2, h3, h4, h5, h6, h7, h8, h9, h10⟩ := h
  intro c hc
  match c, hc with
  | 0, _ => exact h0
  | 1, _ => exact h1
  | 2, _ => exact h2
  | 3, _ => exact h3
  | 4, _ => exact h4
  | 5, _ => exact h5
  | 6, _ => exact h6
  | 7, _ => exact h7
  | 8, _ => exact h8
  | 9, _ => exact h9
  | 10, _ => exact h10
theorem pl_of (r : Nat) (h : r < 5) : ∃ F, famOf (plF r) = some F ∧ PlOk F (bytesOf (plM r)) := by
  match r, h with
  | 0, _ => exact ⟨famC, rfl, rfl, by decide, all11 _ (by decide), by decide, by decide⟩
  | 1, _ => exact ⟨famG, rfl, rfl, by decide, all11 _ (by decide), by decide, by decide⟩
  | 2, _ => exact ⟨famP, rfl, rfl, by decide, all11 _ (by decide), by decide, by decide⟩
  | 3, _ => exact ⟨famS, rfl, rfl, by decide, all11 _ (by decide), by decide, by decide⟩
  | 4, _ => exact ⟨famQ, rfl, rfl, by decide, all11 _ (by decide), by decide, by decide⟩
theorem tx_plain (F : Fam) (m : List Int) (h : PlOk F m) (l : List Int) : ∀ c ∈ tx l ++ [32], some c ∉ firsts F := by
  intro c hc
  rcases List.mem_append.1 hc with hc | hc
  · unfold tx at hc
    obtain ⟨x, _, hx⟩ := List.mem_flatMap.1 hc
    exact plain_of F _ (h.pl _ (Nat.mod_lt _ (by decide))) c hx
  · simp at hc
    rw [hc]
    exact h.h32
theorem pl_code (F : Fam) (m : List Int) (h : PlOk F m) (l : List Int) : lexF F (-1) (tx l ++ [32]) = List.replicate ((tx l).length + 1) 4 := by
  rw [lexF_plain' F _ (tx_plain F m h l)]
  simp
theorem pl_get (F : Fam) (m : List Int) (h : PlOk F m) (l a : List Int) (ha : (10 : Int) ∉ a) (i : Nat) (hi : i < (tx l ++ [32] ++ (m ++ a)).length) :
    (lexF F (-1) (tx l ++ [32] ++ (m ++ a)))[i]? = some (if (tx l).length + 1 + m.length ≤ i then 1 else if (tx l).length + 1 ≤ i then 3 else 4) := by
  rw [lexF_plain F _ (tx_plain F m h l)]
  have e : (tx l ++ [32]).getLastD (-1) = 32 := by simp
  rw [e, lexF_line_end (F := F) h.hl h.hm (.inr rfl) ha]
  simp only [List.length_append, List.length_cons, List.length_nil] at hi
  have hl : (tx l ++ [(32 : Int)]).length = (tx l).length + 1 := by simp
  rw [hl]
  by_cases h1 : i < (tx l).length + 1
  · rw [if_neg (by omega), if_neg (by omega), List.getElem?_append_left (by simpa using h1), List.getElem?_replicate, if_pos h1]
  · rw [List.getElem?_append_right (by simpa using h1), List.length_replicate]
    by_cases h2 : i < (tx l).length + 1 + m.length
    · rw [if_neg (by omega), if_pos (by omega), List.getElem?_append_left (by simp only [List.length_replicate]; omega), List.getElem?_replicate, if_pos (by omega)]
    · rw [if_pos (by omega), List.getElem?_append_right (by simp only [List.length_replicate]; omega), List.getElem?_replicate, if_pos (by simp only [List.length_replicate]; omega)]
theorem bytes_strOf (l : List Int) (h : Bys l) : bytesOf (strOfNums l) = l := by
  unfold bytesOf strOfNums
  simp only [List.map_map]
  induction l with
  | nil => rfl
  | cons x l ih =>
    have hx := h x (by simp)
    simp only [List.map_cons, Function.comp]
    rw [ih (fun y hy => h y (by simp [hy]))]
    congr 1
    simp only [UInt8.toNat_ofNat']
    omega
theorem nt0 : ∀ w : World, (Instr.index 9 (.string ⟨#[97, 98, 32, 34, 39, 47, 42]⟩) (.int .u8 0)).run Try.prog w = .ok (.int .u8 97) w := fun _ => by kernel_rfl
theorem nt1 : ∀ w : World, (Instr.index 9 (.string ⟨#[97, 98, 32, 34, 39, 47, 42]⟩) (.int .u8 1)).run Try.prog w = .ok (.int .u8 98) w := fun _ => by kernel_rfl
theorem nt2 : ∀ w : World, (Instr.index 9 (.string ⟨#[97, 98, 32, 34, 39, 47, 42]⟩) (.int .u8 2)).run Try.prog w = .ok (.int .u8 32) w := fun _ => by kernel_rfl
theorem nt3 : ∀ w : World, (Instr.index 9 (.string ⟨#[97, 98, 32, 34, 39, 47, 42]⟩) (.int .u8 3)).run Try.prog w = .ok (.int .u8 34) w := fun _ => by kernel_rfl
theorem nt4 : ∀ w : World, (Instr.index 9 (.string ⟨#[97, 98, 32, 34, 39, 47, 42]⟩) (.int .u8 4)).run Try.prog w = .ok (.int .u8 39) w := fun _ => by kernel_rfl
theorem nt5 : ∀ w : World, (Instr.index 9 (.string ⟨#[97, 98, 32, 34, 39, 47, 42]⟩) (.int .u8 5)).run Try.prog w = .ok (.int .u8 47) w := fun _ => by kernel_rfl
theorem nt6 : ∀ w : World, (Instr.index 9 (.string ⟨#[97, 98, 32, 34, 39, 47, 42]⟩) (.int .u8 6)).run Try.prog w = .ok (.int .u8 42) w := fun _ => by kernel_rfl
theorem nt_index (q : Nat) (h : q < 7) : ∀ w, (Instr.index 9 (.string ⟨#[97, 98, 32, 34, 39, 47, 42]⟩) (.int .u8 (q : Int))).run Try.prog w = .ok (.int .u8 (ntC q)) w := by
  match q, h with
  | 0, _ => exact nt0
  | 1, _ => exact nt1
  | 2, _ => exact nt2
  | 3, _ => exact nt3
  | 4, _ => exact nt4
  | 5, _ => exact nt5
  | 6, _ => exact nt6

set_option maxRecDepth 100000 in
set_option maxHeartbeats 4000000 in
theorem srcPlain_any (f : Nat) (A : Option Addr) (c : Nat) (l : List Int) (A2 : Option Addr) (c2 : Nat) (l2 : List Int) (w : World) (hf : f < 256) (hA : Kd.C (Kd.int .u8) w A l.length l) (hb : Bys l) (hm : l.length ≤ 140737488351232) (hA2 : Kd.C (Kd.int .u8) w A2 l2.length l2) (hb2 : Bys l2) (hm2 : l2.length ≤ 140737488351232) :
    Calls Try.prog 8 #[.int .u8 f, .slice A l.length c, .slice A2 l2.length c2] w fun e w' => e = .returned (.bool true) ∧ Below w.heap.size w w' := by
  have HA := Lib.hid hA
  have HBy := Lib.hid hb
  have HA2 := Lib.hid hA2
  have HBy2 := Lib.hid hb2
  clear hA hb hA2 hb2
  go_enter Try.func8, Try.ntmps8
  go_wp2_with fail
  refine (awake_any _).mono ?_
  rintro e w1 ⟨rfl, hbw⟩
  have HW := Lib.hid hbw
  clear hbw
  go_upto_block 0 with fail
  go_cut [7] (fun v wx => ∃ T : ByteArray, v = .string T ∧ T.size ≤ 500 ∧ Hid (bytesOf T = tx l ∧ Below w.heap.size w wx))
  case first =>
    go_wp2_with fail
    go_loopg [7, 25] l.length (fun gn v iv wr => ∃ (j : Nat) (T : ByteArray), v = .string T ∧ iv = .int .i64 j ∧ j ≤ l.length ∧ T.size ≤ 5 * min j 100 ∧ Hid (bytesOf T = tx (l.take j) ∧ Below w.heap.size w wr ∧ gn = l.length - j))
    case atStart => exact ⟨0, ⟨#[]⟩, rfl, rfl, Nat.zero_le _, Nat.zero_le _, rfl, HW.out, rfl⟩
    case round =>
      obtain ⟨j, T, rfl, rfl, hj, hT, HJ⟩ := hrel
      clear HW
      by_cases hlt : j < l.length
      · obtain ⟨ad, rfl, hcell⟩ := Kd.at_int (Kd.C_below HA.out HJ.out.2.1) (j : Int) (by omega) (by omega)
        rw [Int.toNat_natCast] at hcell
        obtain ⟨x, hx⟩ : ∃ x : Nat, l.getD j 0 = (x : Int) := ⟨(l.getD j 0).toNat, by have := HBy.out _ (getD_mem l 0 j hlt); omega⟩
        have hx2 : rd l (j : Int) = (x : Int) := hx
        rw [hx2] at hcell
        have HX := Lib.hid hx
        clear hx hx2
        by_cases h20 : j < 100
        · obtain ⟨q, hq⟩ : ∃ q : Nat, (x : Int) % 11 = (q : Int) := ⟨x % 11, by omega⟩
          have hq8 : q < 11 := by omega
          have hqx : q = x % 11 := by omega
          have hs := tx_snoc l j h20 hlt
          rw [HX.out, Int.toNat_natCast, ← hqx] at hs
          have HS := Lib.hid hs
          have hcq : (wr.alloc (.cells #[.string ⟨#[97]⟩, .string ⟨#[49]⟩, .string ⟨#[32]⟩, .string ⟨#[10]⟩, .string ⟨#[43, 32]⟩, .string ⟨#[40]⟩, .string ⟨#[41]⟩, .string ⟨#[123, 125]⟩, .string ⟨#[120, 32, 61, 32, 121]⟩, .string ⟨#[59]⟩, .string ⟨#[92]⟩] 9 (0, 0))).cell? ⟨wr.heap.size, q, none⟩ = some (.string (plP q)) := by
            rw [blk_cell (blk_new wr _)]
            exact at_strsM plS q hq8
          have hpcs := plP_size q hq8
          have hT2 : T.size ≤ 500 := by omega
          clear hs hqx
          generalize plP q = pc at *
          go_wp2_with fail
          go_roundg (l.length - (j + 1))
          case measure => have := HJ.out.2.2; omega
          case rel =>
            refine ⟨j + 1, _, rfl, by go_num, by omega, ?_, ?_, below_alloc HJ.out.2.1 _, rfl⟩
            · rw [ByteArray.size_append]
              omega
            · rw [bytesOf_append, HJ.out.1, HS.out]
        · go_wp2_with fail
          go_roundg (l.length - (j + 1))
          case measure => have := HJ.out.2.2; omega
          case rel => exact ⟨j + 1, T, rfl, by go_num, by omega, by omega, by rw [tx_far l j (by omega)]; exact HJ.out.1, HJ.out.2.1, rfl⟩
      · obtain rfl : j = l.length := by omega
        have HE := Lib.hid (show bytesOf T = tx l from by rw [HJ.out.1, List.take_length])
        go_wp2_with fail
        go_meet
        exact ⟨T, rfl, by omega, HE.out, HJ.out.2.1⟩
  case rest =>
    obtain ⟨T, rfl, hT, HT⟩ := hcut
    clear HW
    rename_i wc
    obtain ⟨r, hr⟩ : ∃ r : Nat, (f : Int) % 5 = (r : Int) := ⟨f % 5, by omega⟩
    have hr5 : r < 5 := by omega
    have HR := Lib.hid hr
    clear hr
    go_upto_region 10 with fail
    go_cut [10] (fun kv wx => kv = .int .u8 (plF r) ∧ Hid (Below w.heap.size w wx))
    case first =>
      have hr := HR.out
      have HP := Lib.hid (plF_eq r hr5)
      go_wp2_with fail
      go_meet
      exact ⟨by rw [HP.out], HT.out.2⟩
    case rest =>
      obtain ⟨rfl, HW2⟩ := hcut
      go_upto_region 11 with fail
      go_cut [11] (fun kv wx => kv = .string (plM r) ∧ Hid (Below w.heap.size w wx))
      case first =>
        have hr := HR.out
        have hcell : (wc.alloc (.cells #[.string ⟨#[47, 47]⟩, .string ⟨#[47, 47]⟩, .string ⟨#[35]⟩, .string ⟨#[35]⟩, .string ⟨#[45, 45]⟩] 9 (0, 0))).cell? ⟨wc.heap.size, r, none⟩ = some (.string (plM r)) := by
          rw [blk_cell (blk_new wc _)]
          exact at_strsM [(⟨#[47, 47]⟩ : ByteArray), ⟨#[47, 47]⟩, ⟨#[35]⟩, ⟨#[35]⟩, ⟨#[45, 45]⟩] r hr5
        go_wp2_with fail
        go_meet
        exact ⟨rfl, below_alloc HW2.out _⟩
      case rest =>
        obtain ⟨rfl, HW3⟩ := hcut
        clear HW2
        obtain ⟨F, hFL⟩ := pl_of r hr5
        have HFL := Lib.hid hFL
        clear hFL
        generalize plF r = fm at *
        generalize plM r = M at *
        have hMs : M.size ≤ 2 := by rw [← bytesOf_length]; exact HFL.out.2.le
        have kc := conv_run (T ++ ⟨#[32]⟩)
        have hT1 : (T ++ (⟨#[32]⟩ : ByteArray)).size ≤ 1000 := by
          rw [ByteArray.size_append]
          have e : (⟨#[32]⟩ : ByteArray).size = 1 := rfl
          omega
        have hb1 : bytesOf (T ++ ⟨#[32]⟩) = tx l ++ [32] := by rw [bytesOf_append, HT.out.1]; rfl
        have HT1 := Lib.hid hT1
        have HB1 := Lib.hid hb1
        have hTl : T.size = (tx l).length := by rw [← HT.out.1, bytesOf_length]
        have HTl := Lib.hid hTl
        clear hT1 hb1 hTl
        generalize hU1 : T ++ (⟨#[32]⟩ : ByteArray) = U1 at *
        have HU1 := Lib.hid hU1
        go_wp2_with fail
        have hC := conv_C wc U1 (by have := HT1.out; omega)
        rw [HB1.out] at hC
        refine (lex_any fm F _ _ U1.size _ _ HFL.out.1 hC (grownCap_ge _ _ _ _) (by rw [← HB1.out]; exact Bys.of U1) (by have := HT1.out; omega)).mono ?_
        rintro e w6 ⟨g, k, rfl, hs, hb6, _, _⟩
        rw [pl_code F _ HFL.out.2 l, ← HTl.out] at hs
        have HS := Lib.hid (And.intro hs (below_step (bytes_below HW3.out HW3.out.size _ _) hb6))
        clear hs hb6 hC kc hU1
        go_upto_block 2 with fail
        go_cut [7] (fun v wx => ∃ U : ByteArray, v = .string U ∧ U.size ≤ 1000 ∧ Hid (bytesOf U = tx l ++ [32] ++ (bytesOf M ++ nt l2) ∧ Sheet wx g k (List.replicate (T.size + 1) 4) ∧ Below w.heap.size w wx))
        case first =>
          go_wp2_with fail
          go_loopg [7, 65] l2.length (fun gn v iv wr => ∃ (j : Nat) (U : ByteArray), v = .string U ∧ iv = .int .i64 j ∧ j ≤ l2.length ∧ U.size ≤ 600 + min j 50 ∧ Hid (bytesOf U = tx l ++ [32] ++ (bytesOf M ++ nt (l2.take j)) ∧ Sheet wr g k (List.replicate (T.size + 1) 4) ∧ Below w.heap.size w wr ∧ gn = l2.length - j))
          case atStart =>
            refine ⟨0, _, rfl, rfl, Nat.zero_le _, ?_, ?_, HS.out.1, HS.out.2, rfl⟩
            · rw [ByteArray.size_append, ByteArray.size_append]
              have e : (⟨#[32]⟩ : ByteArray).size = 1 := rfl
              omega
            · rw [bytesOf_append, bytesOf_append, HT.out.1]
              have e : bytesOf ⟨#[32]⟩ = [32] := rfl
              rw [e]
              simp [nt]
          case round =>
            obtain ⟨j, U, rfl, rfl, hj, hU, HJ⟩ := hrel
            by_cases hlt : j < l2.length
            · obtain ⟨ad, rfl, hcell⟩ := Kd.at_int (Kd.C_below HA2.out HJ.out.2.2.1) (j : Int) (by omega) (by omega)
              rw [Int.toNat_natCast] at hcell
              obtain ⟨x, hx⟩ : ∃ x : Nat, l2.getD j 0 = (x : Int) := ⟨(l2.getD j 0).toNat, by have := HBy2.out _ (getD_mem l2 0 j hlt); omega⟩
              have hx2 : rd l2 (j : Int) = (x : Int) := hx
              rw [hx2] at hcell
              have HX := Lib.hid hx
              clear hx hx2
              by_cases h50 : j < 50
              · obtain ⟨q, hq⟩ : ∃ q : Nat, (x : Int) % 7 = (q : Int) := ⟨x % 7, by omega⟩
                have hq8 : q < 7 := by omega
                have hqx : q = x % 7 := by omega
                have hs := nt_snoc l2 j h50 hlt
                rw [HX.out, Int.toNat_natCast, ← hqx] at hs
                have HSn := Lib.hid hs
                have HNt := Lib.hid (ntC_ok q hq8)
                have hix := nt_index q hq8
                have hU2 : U.size ≤ 700 := by omega
                generalize ntC q = y at *
                have hcv : (convert 22 9 (.slice (some ⟨wr.heap.size, 0, none⟩) 1 1)).run Try.prog (wr.alloc (.cells #[.int .u8 y] 5)) = .ok (.string (strOfNums [y])) (wr.alloc (.cells #[.int .u8 y] 5)) := Kd.C_string (P := Try.prog) (c := 1) Try.underlying22 Try.underlying5 Try.underlying9 (lit_C wr 5 (0, 0) [y] (by simp))
                have hss : (strOfNums [y]).size = 1 := strOfNums_size [y]
                have hbs : bytesOf (strOfNums [y]) = [y] := bytes_strOf [y] (by intro z hz; simp at hz; have := HNt.out; omega)
                have HBs := Lib.hid (And.intro hss hbs)
                have hss1 : (strOfNums [y]).size ≤ 1 := by omega
                clear hs hqx hss hbs
                generalize strOfNums [y] = Y at *
                go_wp2_with fail
                go_roundg (l2.length - (j + 1))
                case measure => have := HJ.out.2.2.2; omega
                case rel =>
                  refine ⟨j + 1, _, rfl, by go_num, by omega, ?_, ?_, HJ.out.2.1.alloc _, below_alloc HJ.out.2.2.1 _, rfl⟩
                  · rw [ByteArray.size_append]
                    omega
                  · rw [bytesOf_append, HJ.out.1, HSn.out, HBs.out.2]
                    simp
              · go_wp2_with fail
                go_roundg (l2.length - (j + 1))
                case measure => have := HJ.out.2.2.2; omega
                case rel => exact ⟨j + 1, U, rfl, by go_num, by omega, by omega, by rw [nt_far l2 j (by omega)]; exact HJ.out.1, HJ.out.2.1, HJ.out.2.2.1, rfl⟩
            · obtain rfl : j = l2.length := by omega
              have HE := Lib.hid (show bytesOf U = tx l ++ [32] ++ (bytesOf M ++ nt l2) from by rw [HJ.out.1, List.take_length])
              go_wp2_with fail
              go_meet
              exact ⟨U, rfl, by omega, HE.out, HJ.out.2.1, HJ.out.2.2.1⟩
        case rest =>
          obtain ⟨U, rfl, hU, HU⟩ := hcut
          clear HS
          have kc := conv_run U
          have HGet := Lib.hid (fun i => pl_get F (bytesOf M) HFL.out.2 l (nt l2) (nt_not l2) i)
          rw [← HU.out.1, bytesOf_length, ← HTl.out, bytesOf_length] at HGet
          have hTU : T.size + 1 + M.size ≤ U.size := by
            have e := congrArg List.length HU.out.1
            rw [bytesOf_length] at e
            simp only [List.length_append, List.length_cons, List.length_nil, bytesOf_length] at e
            rw [← HTl.out] at e
            omega
          go_wp2_with fail
          have hC := conv_C wc U (by omega)
          refine (lex_any fm F _ _ U.size _ _ HFL.out.1 hC (grownCap_ge _ _ _ _) (Bys.of U) (by omega)).mono ?_
          rintro e w8 ⟨g2, k2, rfl, hs2, hb8, _, _⟩
          have hbb := below_step (bytes_below (Below.refl wc.heap.size wc) (Nat.le_refl _) 5 U) hb8
          have HS := Lib.hid (show Sheet w8 g k (List.replicate (T.size + 1) 4) ∧ Sheet w8 g2 k2 (lexF F (-1) (bytesOf U)) ∧ Below w.heap.size w w8 from ⟨HU.out.2.1.below hbb, hs2, below_step HU.out.2.2 hbb⟩)
          clear hs2 hb8 hC kc hbb
          go_wp2_with fail
          go_loopg [89] U.size (fun gn iv wr => ∃ i : Nat, iv = .int .i64 i ∧ i ≤ U.size ∧ Hid (Sheet wr g k (List.replicate (T.size + 1) 4) ∧ Sheet wr g2 k2 (lexF F (-1) (bytesOf U)) ∧ Below w.heap.size w wr ∧ gn = U.size - i))
          case atStart => exact ⟨0, rfl, Nat.zero_le _, HS.out.1, HS.out.2.1, HS.out.2.2, rfl⟩
          case round =>
            obtain ⟨i, rfl, hi, HQ⟩ := hrel
            have HS2 := Lib.hid (And.intro HQ.out.1 (And.intro HQ.out.2.1 HQ.out.2.2.1))
            have HG := Lib.hid HQ.out.2.2.2
            clear HQ HS
            by_cases hlt : i < U.size
            · have hget := HGet.out i hlt
              by_cases h1 : T.size + 1 + M.size ≤ i
              · rw [if_pos h1] at hget
                have HGt := Lib.hid hget
                have hI : (T.size : Int) + 1 + (M.size : Int) ≤ (i : Int) := by omega
                have hI2 : (T.size : Int) + 1 ≤ (i : Int) := by omega
                clear hget
                go_wp2_with (go_at_call 17; refine (at_in g2 k2 _ i 1 _ HS2.out.2.1 HGt.out).mono ?_; rintro e w' ⟨rfl, rfl⟩)
                go_roundg (U.size - (i + 1))
                case measure => have := HG.out; omega
                case rel => exact ⟨i + 1, by go_num, by omega, HS2.out.1, HS2.out.2.1, HS2.out.2.2, rfl⟩
              · rw [if_neg h1] at hget
                have hI : (i : Int) < (T.size : Int) + 1 + (M.size : Int) := by omega
                by_cases h2 : T.size + 1 ≤ i
                · rw [if_pos h2] at hget
                  have HGt := Lib.hid hget
                  have hI2 : (T.size : Int) + 1 ≤ (i : Int) := by omega
                  clear hget
                  go_wp2_with (go_at_call 17; refine (at_in g2 k2 _ i 3 _ HS2.out.2.1 HGt.out).mono ?_; rintro e w' ⟨rfl, rfl⟩)
                  go_roundg (U.size - (i + 1))
                  case measure => have := HG.out; omega
                  case rel => exact ⟨i + 1, by go_num, by omega, HS2.out.1, HS2.out.2.1, HS2.out.2.2, rfl⟩
                · rw [if_neg h2] at hget
                  have HGt := Lib.hid hget
                  have hI2 : (i : Int) < (T.size : Int) + 1 := by omega
                  have HG4 := Lib.hid (show (List.replicate (T.size + 1) (4 : Int))[i]? = some 4 from by rw [List.getElem?_replicate, if_pos (by omega)])
                  clear hget
                  go_wp2_with fail
                  refine (at_in g2 k2 _ i 4 _ HS2.out.2.1 HGt.out).mono ?_
                  rintro e w' ⟨rfl, rfl⟩
                  go_wp2_with fail
                  refine (at_in g k _ i 4 _ HS2.out.1 HG4.out).mono ?_
                  rintro e w' ⟨rfl, rfl⟩
                  go_wp2_with fail
                  go_roundg (U.size - (i + 1))
                  case measure => have := HG.out; omega
                  case rel => exact ⟨i + 1, by go_num, by omega, HS2.out.1, HS2.out.2.1, HS2.out.2.2, rfl⟩
            · obtain rfl : i = U.size := by omega
              go_wp2_with fail
              go_ret
              exact ⟨rfl, HS2.out.2.2⟩
end Go.Proofs.Ytjbbogcoabgcnaa.S
namespace Go.Proofs.Ytjbbogcoabgcnaa.Wk.SrcPlain
open Go.RowKit Go.Proofs.YtjbbogcoabgcnaaW.PrintWords Go.Proofs.Ytjbbogcoabgcnaa.S
theorem walk (a0 : Int) (A1 : Option Addr) (c1 : Nat) (l1 : List Int) (A2 : Option Addr) (c2 : Nat) (l2 : List Int) (w : World) (h0 : (Lit.int .u8 a0).wf = true) (hr : Kd.C (Kd.int .u8) w A1 l1.length l1) (hc : l1.length ≤ c1) (hg : Bys l1 ∧ l1.length ≤ 140737488351232) (hr2 : Kd.C (Kd.int .u8) w A2 l2.length l2) (hc2 : l2.length ≤ c2) (hg2 : Bys l2 ∧ l2.length ≤ 140737488351232) :
    Calls Try.prog 8 #[.int .u8 a0, .slice A1 l1.length c1, .slice A2 l2.length c2] w fun e w' => e = .returned (.bool true) ∧ Below w.heap.size w w' := by
  obtain ⟨n, rfl, hn⟩ := u8_of h0
  exact srcPlain_any n A1 c1 l1 A2 c2 l2 w hn hr hg.1 hg.2 hr2 hg2.1 hg2.2
end Go.Proofs.Ytjbbogcoabgcnaa.Wk.SrcPlain
