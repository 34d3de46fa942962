/- slices' stable sort at edits: the blocks and the merges. Conditions: as each lemma says. -/
import Derived.Test.YtgcjkijndibejaaESym
import Derived.Sort.LotA
set_option linter.unusedVariables false
set_option linter.unusedSimpArgs false
namespace Go.Proofs.Ytgcjkijndibejaa.Srt
open Go.Shelf Go.RowKit Go.Lib Go.Sort
variable {P : Program} {α : Type} [Inhabited α]

def insRen : Go.Shelf.Ren := ⟨fun | 20 => 29 | _ => 0, fun | 0 => 0 | 3 => 3 | 4 => 4 | 22 => 23 | 24 => 46 | 25 => 55 | _ => 0, fun _ => 0⟩
theorem insLays (k : Nat) (L : Sb P k) : SlLaysF0.n20 P insRen := {
  mixed := L.mixed
  f20 := ⟨Try.f29.name, by kernel_rfl, L.f29.trans (congrArg some (by kernel_rfl))⟩
  t0 := L.t0
  a0 := L.a0
  z0 := L.z0
  v0 := L.v0
  t3 := L.t3
  a3 := L.a3
  z3 := L.z3
  v3 := L.v3
  t4 := L.t4
  a4 := L.a4
  z4 := L.z4
  v4 := L.v4
  t22 := L.t23
  a22 := L.a23
  z22 := L.z23
  v22 := L.v23
  t25 := L.t55
  a25 := L.a55
  z25 := L.z55
  v25 := L.v55 }
theorem size_insInner (lt : α → α → Bool) (a : Nat) : ∀ (j : Nat) (d : Array α), (insInner lt a j d).size = d.size := by
  intro j
  induction j with
  | zero => intro d; rfl
  | succ j ih =>
    intro d
    unfold insInner
    split
    · rw [ih, size_swp]
    · rfl
theorem size_insOuter (lt : α → α → Bool) (a b : Nat) : ∀ (n i : Nat) (d : Array α), b - i ≤ n → (insOuter lt a b i d).size = d.size := by
  intro n
  induction n with
  | zero =>
    intro i d h
    unfold insOuter
    rw [if_neg (by omega)]
  | succ n ih =>
    intro i d h
    unfold insOuter
    split
    · rw [ih _ _ (by omega), size_insInner]
    · rfl
theorem size_ins (lt : α → α → Bool) (d : Array α) (a b : Nat) : (Sort.insertionSort lt d a b).size = d.size := size_insOuter lt a b _ _ d (Nat.le_refl _)
theorem insertion_any (k : Nat) (L : Sb P k) (enc : α → List Value) (cf : α → α → Int) (g : Nat) (cb : Array Value) (blk off cap a b : Nat) (d0 d : Array α) (w0 w : World)
    (eg : ∀ args w, (callFunc g args).run P w = .ok (.enter g args) w) (hcmp : CmpLays P g cb enc k cf blk off d0.size w0) (R : RowK enc k w0 blk off d0) (hs : d.size = d0.size) (S : SWK enc k w0 blk off d w) (hab : a ≤ b) (hb : b ≤ d0.size) (hsz : d0.size < 4611686018427387904) :
    Calls P 29 #[.slice (some ⟨blk, off, none⟩) d0.size cap, .int .i64 a, .int .i64 b, .func (.func g) #[] cb] w fun e w' => e = .returned (.tuple #[]) ∧ SWK enc k w0 blk off (Sort.insertionSort (ltOf cf) d a b) w' := by
  have hC : CmpLays P g cb enc k cf blk off d.size w := fun m os dk hdk x y => by
    obtain ⟨n0, os0, rfl⟩ := S
    rw [sortWorldK_on enc k w0 blk off n0 m d dk os0 os R.hblk hdk]
    exact hcmp _ _ dk (by omega) x y
  have h := AnyQ.insertionSortCmpFunc (insLays k L) k L.aE L.zE enc R.hk R.h1 cf g cb blk off cap a b d w eg hC (S.holds R.hblk R.hH hs) (S.lt R.hblk) hab (by omega) (by omega)
  rw [hs] at h
  refine h.mono ?_
  rintro e w' ⟨rfl, n, os, rfl⟩
  exact ⟨rfl, S.on R.hblk n _ os (size_ins _ _ _ _)⟩

/-! ### the whole -/
def stbA (lt : α → α → Bool) (n : Nat) : Nat → Nat → Array α → Nat × Array α
  | 0, a, d => (a, d)
  | f + 1, a, d => if a + 20 ≤ n then stbA lt n f (a + 20) (Sort.insertionSort lt d a (a + 20)) else (a, d)
def stb1 (lt : α → α → Bool) (n : Nat) (d : Array α) : Array α := Sort.insertionSort lt (stbA lt n n 0 d).2 (stbA lt n n 0 d).1 n
def mrg (lt : α → α → Bool) (n bs : Nat) : Nat → Nat → Array α → Nat × Array α
  | 0, a, d => (a, d)
  | f + 1, a, d => if a + 2 * bs ≤ n then mrg lt n bs f (a + 2 * bs) (symM lt n d a (a + bs) (a + 2 * bs)) else (a, d)
def mrgT (lt : α → α → Bool) (n bs : Nat) (r : Nat × Array α) : Array α := if r.1 + bs < n then symM lt n r.2 r.1 (r.1 + bs) n else r.2
def lvl (lt : α → α → Bool) (n : Nat) : Nat → Nat → Array α → Array α
  | 0, _, d => d
  | f + 1, bs, d => if bs < n then lvl lt n f (bs * 2) (mrgT lt n bs (mrg lt n bs n 0 d)) else d
def stb (lt : α → α → Bool) (d : Array α) : Array α := lvl lt d.size d.size 20 (stb1 lt d.size d)
theorem stbA_go (lt : α → α → Bool) (n f a : Nat) (d : Array α) (h : a + 20 ≤ n) : stbA lt n (f + 1) a d = stbA lt n f (a + 20) (Sort.insertionSort lt d a (a + 20)) := by
  conv => lhs; unfold stbA
  rw [if_pos h]
theorem stbA_stop (lt : α → α → Bool) (n f a : Nat) (d : Array α) (h : ¬ a + 20 ≤ n) : stbA lt n f a d = (a, d) := by
  cases f with
  | zero => rfl
  | succ f => unfold stbA; rw [if_neg h]
theorem mrg_go (lt : α → α → Bool) (n bs f a : Nat) (d : Array α) (h : a + 2 * bs ≤ n) : mrg lt n bs (f + 1) a d = mrg lt n bs f (a + 2 * bs) (symM lt n d a (a + bs) (a + 2 * bs)) := by
  conv => lhs; unfold mrg
  rw [if_pos h]
theorem mrg_stop (lt : α → α → Bool) (n bs f a : Nat) (d : Array α) (h : ¬ a + 2 * bs ≤ n) : mrg lt n bs f a d = (a, d) := by
  cases f with
  | zero => rfl
  | succ f => unfold mrg; rw [if_neg h]
theorem lvl_go (lt : α → α → Bool) (n f bs : Nat) (d : Array α) (h : bs < n) : lvl lt n (f + 1) bs d = lvl lt n f (bs * 2) (mrgT lt n bs (mrg lt n bs n 0 d)) := by
  conv => lhs; unfold lvl
  rw [if_pos h]
theorem lvl_stop (lt : α → α → Bool) (n f bs : Nat) (d : Array α) (h : ¬ bs < n) : lvl lt n f bs d = d := by
  cases f with
  | zero => rfl
  | succ f => unfold lvl; rw [if_neg h]
set_option maxHeartbeats 8000000 in
set_option maxRecDepth 1000000 in
theorem stable_any (k : Nat) (L : Sb P k) (enc : α → List Value) (cf : α → α → Int) (g : Nat) (cb : Array Value) (blk off cap : Nat) (d0 : Array α) (w0 : World)
    (eg : ∀ args w, (callFunc g args).run P w = .ok (.enter g args) w) (hcmp : CmpLays P g cb enc k cf blk off d0.size w0) (R : RowK enc k w0 blk off d0) (hsz : d0.size < 1000000000) :
    Calls P 27 #[.slice (some ⟨blk, off, none⟩) d0.size cap, .int .i64 d0.size, .func (.func g) #[] cb] w0 fun e w' =>
      e = .returned (.tuple #[]) ∧ SWK enc k w0 blk off (stb (ltOf cf) d0) w' := by
  have mixed := L.mixed; have t0 := L.t0; have a0 := L.a0; have z0 := L.z0; have v0 := L.v0; have t3 := L.t3; have a3 := L.a3; have z3 := L.z3; have v3 := L.v3; have t4 := L.t4; have a4 := L.a4; have z4 := L.z4; have v4 := L.v4; have t23 := L.t23; have a23 := L.a23; have z23 := L.z23; have v23 := L.v23; have t55 := L.t55; have a55 := L.a55; have z55 := L.z55; have v55 := L.v55; have aE := L.aE; have zE := L.zE
  have e29 : ∀ args w, (callFunc 29 args).run P w = .ok (.enter 29 args) w := enters_of L.f29 (by kernel_rfl) rfl
  have e30 : ∀ args w, (callFunc 30 args).run P w = .ok (.enter 30 args) w := enters_of L.f30 (by kernel_rfl) rfl
  have F27 := L.f27
  have HC : Aside _ := hcmp
  have S0 : Aside (SWK enc k w0 blk off d0 w0) := SWK.start R.hH
  have HD : Hid (∃ n, n = d0.size) := ⟨_, rfl⟩
  clear hcmp
  go_enter F27, Try.ntmps27
  go_wp2
  go_loopg [7, 8] d0.size (fun g1 va vb wr => ∃ (a bb : Nat) (dk : Array α), va = .int .i64 a ∧ vb = .int .i64 bb ∧ bb ≤ a + 20 ∧ a + 20 ≤ bb ∧ a ≤ d0.size ∧ dk.size = d0.size ∧ d0.size - a ≤ g1 ∧ Aside (SWK enc k w0 blk off dk wr) ∧ Hid (stbA (ltOf cf) d0.size g1 a dk = stbA (ltOf cf) d0.size d0.size 0 d0))
  case atStart => exact ⟨0, 20, d0, rfl, rfl, by omega, by omega, Nat.zero_le _, rfl, by omega, S0, rfl⟩
  case round =>
  clear S0
  obtain ⟨a, bb, dk, rfl, rfl, hbb, hbb', ha, hsk, hg, S1, HO⟩ := hrel
  by_cases hlt : bb ≤ d0.size
  · have hd : decide ((bb : Int) ≤ (d0.size : Int)) = true := by simp; omega
    obtain ⟨gk, rfl⟩ : ∃ z, gk = z + 1 := ⟨gk - 1, by omega⟩
    have HO2 : Hid (stbA (ltOf cf) d0.size gk bb (Sort.insertionSort (ltOf cf) dk a bb) = stbA (ltOf cf) d0.size d0.size 0 d0) := by show _ = _; rw [← HO.out, stbA_go _ _ _ _ _ (by omega), show a + 20 = bb by omega]
    obtain ⟨b3, hb3⟩ : ∃ z : Nat, (bb : Int) + 20 = (z : Int) := ⟨bb + 20, by omega⟩
    have rb3 : IntKind.i64.wrap ((bb : Int) + 20) = (b3 : Int) := by rw [IntKind.wrap_i64]; omega
    clear HO
    go_wp2_with fail
    refine (insertion_any k L enc cf g cb blk off cap a bb d0 dk w0 _ eg HC.out R hsk S1.out (by omega) hlt (by omega)).mono ?_
    rintro e w' ⟨rfl, hS⟩
    have S2 : Aside _ := hS
    clear hS S1
    go_wp2
    go_roundg gk
    case measure => omega
    case rel => exact ⟨bb, b3, _, rfl, rfl, by omega, by omega, hlt, by rw [size_ins]; exact hsk, by omega, S2, HO2⟩
  · have hd : decide ((bb : Int) ≤ (d0.size : Int)) = false := by simp; omega
    have H1 : Hid (stb1 (ltOf cf) d0.size d0 = Sort.insertionSort (ltOf cf) dk a d0.size) := by show _ = _; unfold stb1; rw [← HO.out, stbA_stop _ _ _ _ _ (by omega)]
    clear HO
    go_wp2_with fail
    refine (insertion_any k L enc cf g cb blk off cap a d0.size d0 dk w0 _ eg HC.out R hsk S1.out ha (Nat.le_refl _) (by omega)).mono ?_
    rintro e w' ⟨rfl, hS⟩
    rw [← H1.out] at hS
    have S2 : Aside _ := hS
    have hs1 : (stb1 (ltOf cf) d0.size d0).size = d0.size := by rw [H1.out, size_ins]; exact hsk
    have HSt : Hid (stb (ltOf cf) d0 = lvl (ltOf cf) d0.size d0.size 20 (stb1 (ltOf cf) d0.size d0)) := rfl
    clear hS S1 H1
    generalize stb1 (ltOf cf) d0.size d0 = d1 at *
    go_upto_block 2 with fail
    go_wp2
    go_loopg [6] d0.size (fun g1 vs wr => ∃ (bs : Nat) (dk : Array α), vs = .int .i64 bs ∧ 20 ≤ bs ∧ bs ≤ 20 + 2 * d0.size ∧ dk.size = d0.size ∧ d0.size - bs ≤ g1 ∧ Aside (SWK enc k w0 blk off dk wr) ∧ Hid (lvl (ltOf cf) d0.size g1 bs dk = stb (ltOf cf) d0))
    case atStart => exact ⟨20, d1, rfl, by omega, by omega, hs1, by omega, S2, HSt.out.symm⟩
    case round =>
    clear S2 HSt
    obtain ⟨bs, dl, rfl, hbs, hbs2, hsl, hgl, S3, HL⟩ := hrel
    by_cases hlb : bs < d0.size
    · have hdb : decide ((bs : Int) < (d0.size : Int)) = true := by simp; omega
      obtain ⟨gl, hgl'⟩ : ∃ z, gk = z + 1 := ⟨gk - 1, by omega⟩
      subst hgl'
      have HL2 : Hid (lvl (ltOf cf) d0.size gl (bs * 2) (mrgT (ltOf cf) d0.size bs (mrg (ltOf cf) d0.size bs d0.size 0 dl)) = stb (ltOf cf) d0) := by show _ = _; rw [← HL.out, lvl_go _ _ _ _ _ hlb]
      clear HL
      obtain ⟨b2, hb2⟩ : ∃ z : Nat, 2 * (bs : Int) = (z : Int) := ⟨2 * bs, by omega⟩
      have rb2 : IntKind.i64.wrap (2 * (bs : Int)) = (b2 : Int) := by rw [IntKind.wrap_i64]; omega
      obtain ⟨b4, hb4⟩ : ∃ z : Nat, (bs : Int) * 2 = (z : Int) := ⟨bs * 2, by omega⟩
      have rb4 : IntKind.i64.wrap ((bs : Int) * 2) = (b4 : Int) := by rw [IntKind.wrap_i64]; omega
      go_upto_block 4 with fail
      go_wp2
      go_loopg [7, 8] d0.size (fun g1 va vb wr => ∃ (a bb : Nat) (dk : Array α), va = .int .i64 a ∧ vb = .int .i64 bb ∧ bb ≤ a + b2 ∧ a + b2 ≤ bb ∧ a ≤ d0.size ∧ dk.size = d0.size ∧ d0.size - a ≤ g1 ∧ Aside (SWK enc k w0 blk off dk wr) ∧ Hid (mrg (ltOf cf) d0.size bs g1 a dk = mrg (ltOf cf) d0.size bs d0.size 0 dl))
      case atStart => exact ⟨0, b2, dl, rfl, rfl, by omega, by omega, Nat.zero_le _, hsl, by omega, S3, rfl⟩
      case round =>
      clear S3
      obtain ⟨a, bb, dk, rfl, rfl, hbb, hbb', ha, hsk, hg, S4, HO⟩ := hrel
      obtain ⟨mm, hmm⟩ : ∃ z : Nat, (a : Int) + (bs : Int) = (z : Int) := ⟨a + bs, by omega⟩
      have rmm : IntKind.i64.wrap ((a : Int) + (bs : Int)) = (mm : Int) := by rw [IntKind.wrap_i64]; omega
      by_cases hlt2 : bb ≤ d0.size
      · have hd2 : decide ((bb : Int) ≤ (d0.size : Int)) = true := by simp; omega
        obtain ⟨gm, hgm'⟩ : ∃ z, gk = z + 1 := ⟨gk - 1, by omega⟩
        subst hgm'
        have HO2 : Hid (mrg (ltOf cf) d0.size bs gm bb (symM (ltOf cf) d0.size dk a mm bb) = mrg (ltOf cf) d0.size bs d0.size 0 dl) := by show _ = _; rw [← HO.out, mrg_go _ _ _ _ _ _ (by omega), show a + 2 * bs = bb by omega, show a + bs = mm by omega]
        obtain ⟨b5, hb5⟩ : ∃ z : Nat, (bb : Int) + (b2 : Int) = (z : Int) := ⟨bb + b2, by omega⟩
        have rb5 : IntKind.i64.wrap ((bb : Int) + (b2 : Int)) = (b5 : Int) := by rw [IntKind.wrap_i64]; omega
        clear HO
        go_wp2_with fail
        refine (symMerge_any k L enc cf g cb blk off cap d0 w0 eg HC.out R (by omega) d0.size a mm bb dk _ (by omega) (by omega) (by omega) hlt2 hsk S4.out).mono ?_
        rintro e w' ⟨rfl, hS⟩
        have S5 : Aside _ := hS
        clear hS S4
        go_wp2
        go_roundg gm
        case measure => omega
        case rel => exact ⟨bb, b5, _, rfl, rfl, by omega, by omega, hlt2, by rw [size_symM]; exact hsk, by omega, S5, HO2⟩
      · have hd2 : decide ((bb : Int) ≤ (d0.size : Int)) = false := by simp; omega
        have HM : Hid (mrg (ltOf cf) d0.size bs d0.size 0 dl = (a, dk)) := by show _ = _; rw [← HO.out, mrg_stop _ _ _ _ _ _ (by omega)]
        clear HO
        by_cases hmn : mm < d0.size
        · have hdm : decide ((mm : Int) < (d0.size : Int)) = true := by simp; omega
          have HT : Hid (mrgT (ltOf cf) d0.size bs (mrg (ltOf cf) d0.size bs d0.size 0 dl) = symM (ltOf cf) d0.size dk a mm d0.size) := by
            show _ = _
            rw [HM.out]
            unfold mrgT
            simp only []
            rw [if_pos (by omega), show a + bs = mm by omega]
          go_wp2_with fail
          refine (symMerge_any k L enc cf g cb blk off cap d0 w0 eg HC.out R (by omega) d0.size a mm d0.size dk _ (by omega) (by omega) hmn (Nat.le_refl _) hsk S4.out).mono ?_
          rintro e w' ⟨rfl, hS⟩
          have S5 : Aside _ := hS
          clear hS S4
          go_wp2
          go_roundg gl
          case measure => omega
          case rel => exact ⟨b4, _, rfl, by omega, by omega, by rw [size_symM]; exact hsk, by omega, S5, by show _ = _; rw [← HL2.out, HT.out, show bs * 2 = b4 by omega]⟩
        · have hdm : decide ((mm : Int) < (d0.size : Int)) = false := by simp; omega
          have HT : Hid (mrgT (ltOf cf) d0.size bs (mrg (ltOf cf) d0.size bs d0.size 0 dl) = dk) := by
            show _ = _
            rw [HM.out]
            unfold mrgT
            simp only []
            rw [if_neg (by omega)]
          go_wp2
          go_roundg gl
          case measure => omega
          case rel => exact ⟨b4, dk, rfl, by omega, by omega, hsk, by omega, S4, by show _ = _; rw [← HL2.out, HT.out, show bs * 2 = b4 by omega]⟩
    · have hdb : decide ((bs : Int) < (d0.size : Int)) = false := by simp; omega
      have HE : Hid (stb (ltOf cf) d0 = dl) := by show _ = _; rw [← HL.out, lvl_stop _ _ _ _ _ hlb]
      go_wp2
      go_end0
      exact ⟨rfl, by rw [HE.out]; exact S3.out⟩
end Go.Proofs.Ytgcjkijndibejaa.Srt
