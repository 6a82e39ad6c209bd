/-
  THE SUM of bytes: what the code computes, in plain Lean.
-/
import Derived.Test.YtgfppmnpccaloaaDoorSha1
import Derived.RegionTactic
namespace Go.Proofs.YtgfppmnpccaloaaDoor
open Go.RowKit

def wvs (l : List W32) : List Value := l.map wv
theorem wvs_length (l : List W32) : (wvs l).length = l.length := by simp [wvs]
theorem wvs_app (a b : List W32) : wvs (a ++ b) = wvs a ++ wvs b := by simp [wvs]
theorem wvs_at (l : List W32) (k : Nat) (h : k < l.length) : (wvs l)[k]? = some (.int .u32 (wn (l.getD k 0))) := by
  simp [wvs, h, wv, List.getD]
theorem wvs_one (l : List W32) : ∀ v ∈ wvs l, v.oneCell' = true := by
  intro v hv; simp only [wvs, List.mem_map] at hv; obtain ⟨x, _, rfl⟩ := hv; rfl
theorem wvs_set (l : List W32) (k : Nat) (x : W32) : (wvs l).set k (wv x) = wvs (l.set k x) := by simp [wvs, List.map_set]

def beginL : List W32 := [wlit 1779033703, wlit 3144134277, wlit 1013904242, wlit 2773480762, wlit 1359893119, wlit 2600822924, wlit 528734635, wlit 1541459225]
def tableL : List W32 := [wlit 1116352408, wlit 1899447441, wlit 3049323471, wlit 3921009573, wlit 961987163, wlit 1508970993, wlit 2453635748, wlit 2870763221, wlit 3624381080, wlit 310598401, wlit 607225278, wlit 1426881987, wlit 1925078388, wlit 2162078206, wlit 2614888103, wlit 3248222580, wlit 3835390401, wlit 4022224774, wlit 264347078, wlit 604807628, wlit 770255983, wlit 1249150122, wlit 1555081692, wlit 1996064986, wlit 2554220882, wlit 2821834349, wlit 2952996808, wlit 3210313671, wlit 3336571891, wlit 3584528711, wlit 113926993, wlit 338241895, wlit 666307205, wlit 773529912, wlit 1294757372, wlit 1396182291, wlit 1695183700, wlit 1986661051, wlit 2177026350, wlit 2456956037, wlit 2730485921, wlit 2820302411, wlit 3259730800, wlit 3345764771, wlit 3516065817, wlit 3600352804, wlit 4094571909, wlit 275423344, wlit 430227734, wlit 506948616, wlit 659060556, wlit 883997877, wlit 958139571, wlit 1322822218, wlit 1537002063, wlit 1747873779, wlit 1955562222, wlit 2024104815, wlit 2227730452, wlit 2361852424, wlit 2428436474, wlit 2756734187, wlit 3204031479, wlit 3329325298]

/-- What the package's two variables hold. -/
structure Laid (w : World) : Prop where
  b : w.rangeAt 0 0 (wvs beginL)
  t : w.rangeAt 1 0 (wvs tableL)
theorem rangeAt_kept {w w' : World} {b o : Nat} {cs : List Value} {F : List Nat} (h : w.rangeAt b o cs) (k : Kp F w w') (hF : b ∉ F) : w'.rangeAt b o cs := fun j v hv => by
  have hc := h j v hv
  exact (k.cell (World.block_lt_of_cell? _ _ hc) hF).trans hc
theorem Laid.kept {w w' : World} {F : List Nat} (h : Laid w) (k : Kp F w w') (hF : ∀ x ∈ F, 2 ≤ x) : Laid w' :=
  ⟨rangeAt_kept h.b k (fun hh => by have := hF _ hh; omega), rangeAt_kept h.t k (fun hh => by have := hF _ hh; omega)⟩
theorem Laid.below {w w' : World} (h : Laid w) (k : Kp [] w w') : Laid w' := h.kept k (by simp)
theorem Laid.size {w : World} (h : Laid w) : 1 < w.heap.size := by
  have hc : w.cell? ⟨1, 0 + 0, none⟩ = some (wv (tableL.getD 0 0)) := h.t 0 _ rfl
  exact World.block_lt_of_cell? _ _ hc

/-! ### One block -/
def sg0 (x : W32) : W32 := wxor (wxor (wror x 7) (wror x 18)) (wshr x 3)
def sg1 (x : W32) : W32 := wxor (wxor (wror x 17) (wror x 19)) (wshr x 10)
def schW (b : List UInt8) (ws : List W32) (t : Nat) : W32 :=
  if t < 16 then wordOf (b.drop (4 * t)) else wadd (wadd (wadd (sg1 (ws.getD (t - 2) 0)) (ws.getD (t - 7) 0)) (sg0 (ws.getD (t - 15) 0))) (ws.getD (t - 16) 0)
def schN (b : List UInt8) : Nat → List W32
  | 0 => []
  | t + 1 => schN b t ++ [schW b (schN b t) t]
theorem schN_length (b : List UInt8) : ∀ t, (schN b t).length = t
  | 0 => rfl
  | t + 1 => by rw [schN, List.length_append, schN_length b t]; rfl
def bs1 (e : W32) : W32 := wxor (wxor (wror e 6) (wror e 11)) (wror e 25)
def bs0 (a : W32) : W32 := wxor (wxor (wror a 2) (wror a 13)) (wror a 22)
def chW (e f g : W32) : W32 := wxor (wand e f) (wand (wnot e) g)
def majW (a b c : W32) : W32 := wxor (wxor (wand a b) (wand a c)) (wand b c)
def t1W (e f g h k w : W32) : W32 := wadd (wadd (wadd (wadd h (bs1 e)) (chW e f g)) k) w
def t2W (a b c : W32) : W32 := wadd (bs0 a) (majW a b c)
structure S8 where
  (a b c d e f g h : W32)
def S8.l (s : S8) : List W32 := [s.a, s.b, s.c, s.d, s.e, s.f, s.g, s.h]
def rnd (s : S8) (k w : W32) : S8 :=
  ⟨wadd (t1W s.e s.f s.g s.h k w) (t2W s.a s.b s.c), s.a, s.b, s.c, wadd s.d (t1W s.e s.f s.g s.h k w), s.e, s.f, s.g⟩
def rndN (s : S8) (ws : List W32) : Nat → S8
  | 0 => s
  | n + 1 => rnd (rndN s ws n) (tableL.getD n 0) (ws.getD n 0)
def S8.add (s t : S8) : S8 := ⟨wadd s.a t.a, wadd s.b t.b, wadd s.c t.c, wadd s.d t.d, wadd s.e t.e, wadd s.f t.f, wadd s.g t.g, wadd s.h t.h⟩
def comp (s : S8) (b : List UInt8) : S8 := s.add (rndN s (schN b 64) 64)
def begin8 : S8 := ⟨wlit 1779033703, wlit 3144134277, wlit 1013904242, wlit 2773480762, wlit 1359893119, wlit 2600822924, wlit 528734635, wlit 1541459225⟩
theorem begin8_l : begin8.l = beginL := rfl

/-- A digest's block. -/
def digA (s : S8) (v : Value) (n : Int) : Array Value := (wvs s.l ++ [v, .int .i64 n]).toArray
theorem digA_size (s : S8) (v : Value) (n : Int) : (digA s v n).size = 10 := rfl

theorem mix_length (s t : S8) (k : Nat) (hk : k ≤ 8) : ((s.add t).l.take k ++ s.l.drop k).length = 8 := by
  rw [List.length_append, List.length_take, List.length_drop]; show min k 8 + (8 - k) = 8; omega
theorem mix_at (s t : S8) (k : Nat) (hk : k < 8) : ((s.add t).l.take k ++ s.l.drop k).getD k 0 = s.l.getD k 0 := by
  rcases (by omega : k = 0 ∨ k = 1 ∨ k = 2 ∨ k = 3 ∨ k = 4 ∨ k = 5 ∨ k = 6 ∨ k = 7) with rfl | rfl | rfl | rfl | rfl | rfl | rfl | rfl <;> rfl
theorem mix_set (s t : S8) (k : Nat) (hk : k < 8) : ((s.add t).l.take k ++ s.l.drop k).set k (wadd (s.l.getD k 0) (t.l.getD k 0)) = (s.add t).l.take (k + 1) ++ s.l.drop (k + 1) := by
  rcases (by omega : k = 0 ∨ k = 1 ∨ k = 2 ∨ k = 3 ∨ k = 4 ∨ k = 5 ∨ k = 6 ∨ k = 7) with rfl | rfl | rfl | rfl | rfl | rfl | rfl | rfl <;> rfl
theorem Tryd.t8w : ArT Tryd.prog 50 8 := ⟨⟨_, _, Tryd.underlying50⟩, by kernel_rfl⟩
/-- A callee that leaves the world alone, where draws have been made already. -/
theorem calls_at {P : Program} {f : FuncId} {args : Array Value} {W : World} {C : Nat → World} {v : Value} (h : Calls P f args W fun e w' => e = .returned v ∧ w' = W) (hC : ∃ m, W = C m) : Calls P f args W fun e w'' => e = .returned v ∧ ∃ m, w'' = C m :=
  h.mono fun _ _ ⟨h1, h2⟩ => ⟨h1, by obtain ⟨m, hm⟩ := hC; exact ⟨m, h2.trans hm⟩⟩
theorem drewN_at1 (w : World) (a n : Nat) : ∃ m, w.drewN (a + n) = w.drewN (a + m) := ⟨n, rfl⟩
theorem drewN_at2 (w : World) (a b n : Nat) : ∃ m, w.drewN (a + b + n) = w.drewN (a + (b + m)) := ⟨n, by rw [Nat.add_assoc]⟩
theorem drewN_at3 (w : World) (a b n : Nat) : ∃ m, w.drewN (a + (b + n)) = w.drewN (a + (b + m)) := ⟨n, rfl⟩
theorem rorI (x : W32) (n : Int) (w : World) (hn : n = 2 ∨ n = 6 ∨ n = 7 ∨ n = 11 ∨ n = 13 ∨ n = 17 ∨ n = 18 ∨ n = 19 ∨ n = 22 ∨ n = 25) : Calls Tryd.prog 26 #[.int .u32 (wn x), .int .i64 n] w fun e w' => e = .returned (.int .u32 (wn (wror x n.toNat))) ∧ w' = w := by
  obtain ⟨k, rfl⟩ : ∃ k : Nat, n = k := ⟨n.toNat, by omega⟩
  exact (ror_any x k w (by omega)).mono fun _ _ ⟨h1, h2⟩ => ⟨h1, h2.symm⟩

set_option maxRecDepth 100000 in
set_option maxHeartbeats 4000000 in
theorem block_any (p : Nat) (s : S8) (v : Value) (n : Int) (a : Option Addr) (c : Nat) (b : List UInt8) (w : World) (hp : w.heap[p]? = some (.cells (digA s v n) 52 (0, 0))) (hr : Rd w a 64 c 1 (bcs b)) (hb : b.length = 64) (hpa : p ∉ aF a) (hL : Laid w) :
    Calls Tryd.prog 21 #[.pointer (some ⟨p, 0, none⟩), .slice a 64 c] w fun e w' => e = .returned (.tuple #[]) ∧ w'.heap[p]? = some (.cells (digA (comp s b) v n) 52 (0, 0)) ∧ Kp [p] w w' := by
  obtain ⟨bb, off, rfl, _, hc⟩ := hr.spot (by rw [bcs_length]; omega)
  have hc64 := hr.le
  have hcm := hr.max
  unfold maxLen at hcm
  have HR := Lib.hid hr
  have HP := Lib.hid hp
  have HB := Lib.hid hb
  have HL := Lib.hid hL
  have hplt := lt_of_block hp
  clear hr hp hb hL hc
  go_enter Tryd.func21, Tryd.ntmps21
  go_wp2
  have HZ := Lib.hid (heap_alloc_new w (.cells (wvs (List.replicate 64 0)).toArray 57))
  go_loopw [17] (fun i wr => ∃ (k : Nat), k ≤ 64 ∧ i = .int .i64 k ∧ wr.heap[w.heap.size]? = some (.cells (wvs (schN b k ++ List.replicate (64 - k) 0)).toArray 57 (0, 0)) ∧ Kp [] w wr) (fun i _ => 64 - (intOf i).toNat)
  case atStart => exact ⟨0, by omega, rfl, HZ.out, (Kp.refl [] w).alloc _⟩
  case round =>
    obtain ⟨k, hk, rfl, hW, hkp⟩ := hrel
    have hlen : (schN b k ++ List.replicate (64 - k) (0 : W32)).length = 64 := by rw [List.length_append, schN_length, List.length_replicate]; omega
    have hcell : ∀ j, j < k → wr.cell? ⟨w.heap.size, j, none⟩ = some (.int .u32 (wn ((schN b k).getD j 0))) := fun j hj => by
      rw [cell_of_row wr _ j _ _ _ hW, List.getElem?_toArray, wvs_at _ _ (by omega)]
      simp [List.getD, List.getElem?_append_left, schN_length, hj]
    have HC := Lib.hid hcell
    have HW := Lib.hid hW
    have HK := Lib.hid hkp
    have HLN := Lib.hid hlen
    by_cases hlt : k < 64
    · have hset : ∀ x : W32, (schN b k ++ List.replicate (64 - k) (0 : W32)).set k x = (schN b k ++ [x]) ++ List.replicate (64 - (k + 1)) 0 := fun x => by
        rw [List.set_append_right _ _ (by rw [schN_length]; omega), schN_length, Nat.sub_self, show 64 - k = (64 - (k + 1)) + 1 by omega, List.replicate_succ, List.set_cons_zero, List.append_assoc]; rfl
      have HSET := Lib.hid hset
      have hfr : wr.frozen? ⟨w.heap.size, k, none⟩ = false := frozen_of_row wr _ k _ _ hW
      have hc0 : ∃ u, wr.cell? ⟨w.heap.size, k, none⟩ = some u := ⟨_, by rw [cell_of_row wr _ k _ _ _ hW, List.getElem?_toArray, wvs_at _ _ (by omega)]⟩
      obtain ⟨u0, hu0⟩ := hc0
      by_cases h16 : k < 16
      · have hd := (HR.out.below hkp).drop (4 * k) (by omega)
        rw [if_neg (by omega), Nat.mul_one, bcs_drop, Option.map_some, Addr.add_mid] at hd
        have hw := word_any _ _ _ (b.drop (4 * k)) wr hd (by omega) (by rw [List.length_drop, HB.out])
        have HWC := Lib.hid hw
        clear hcell hW hkp hlen hset hd hw
        have e1 : (0 : Int) ≤ 4 * (k : Int) := by omega
        have e2 : 4 * (k : Int) ≤ (64 : Int) := by omega
        have e3 : (4 * (k : Int)).toNat = 4 * k := by omega
        have e4 : ¬ c = 4 * k := by omega
        have e5 : ¬ 4 * k = c := by omega
        have e6 : (64 : Int) ≤ (c : Int) := by omega
        go_wp2_with fail
        refine HWC.out.mono ?_
        rintro e w' ⟨rfl, m, rfl⟩
        clear e1 e2 e3 e4 e5 e6
        go_wp2
        go_roundw
        case rel =>
          refine ⟨k + 1, by omega, by go_num, ?_, (HK.out.drewN m).setCell (.inr (Nat.le_refl _)) _⟩
          rw [schN, show schW b (schN b k) k = wordOf (b.drop (4 * k)) from if_pos h16, ← HSET.out, ← wvs_set]
          exact (heap_setCell_same (wr.drewN m) w.heap.size k _ _ (wv (wordOf (b.drop (4 * k)))) HW.out).trans (by rw [List.setIfInBounds_toArray])
        case measure => simp [intOf]; omega
      · have c15 := HC.out (k - 15) (by omega)
        have c2 := HC.out (k - 2) (by omega)
        have c7 := HC.out (k - 7) (by omega)
        have c16 := HC.out (k - 16) (by omega)
        obtain ⟨x15, hx15⟩ : ∃ x, x = (schN b k).getD (k - 15) 0 := ⟨_, rfl⟩
        obtain ⟨x2, hx2⟩ : ∃ x, x = (schN b k).getD (k - 2) 0 := ⟨_, rfl⟩
        obtain ⟨x7, hx7⟩ : ∃ x, x = (schN b k).getD (k - 7) 0 := ⟨_, rfl⟩
        obtain ⟨x16, hx16⟩ : ∃ x, x = (schN b k).getD (k - 16) 0 := ⟨_, rfl⟩
        have HX := Lib.hid (show schW b (schN b k) k = wadd (wadd (wadd (sg1 x2) x7) (sg0 x15)) x16 by rw [hx15, hx2, hx7, hx16]; exact if_neg h16)
        rw [← hx15] at c15
        rw [← hx2] at c2
        rw [← hx7] at c7
        rw [← hx16] at c16
        clear hcell hW hkp hlen hset hx15 hx2 hx7 hx16
        have e1 : (0 : Int) ≤ (k : Int) - 15 := by omega
        have e2 : (0 : Int) ≤ (k : Int) - 2 := by omega
        have e3 : (0 : Int) ≤ (k : Int) - 7 := by omega
        have e4 : (0 : Int) ≤ (k : Int) - 16 := by omega
        have f1 : (k : Int) - 15 < 64 := by omega
        have f2 : (k : Int) - 2 < 64 := by omega
        have f3 : (k : Int) - 7 < 64 := by omega
        have f4 : (k : Int) - 16 < 64 := by omega
        have g1 : ((k : Int) - 15).toNat = k - 15 := by omega
        have g2 : ((k : Int) - 2).toNat = k - 2 := by omega
        have g3 : ((k : Int) - 7).toNat = k - 7 := by omega
        have g4 : ((k : Int) - 16).toNat = k - 16 := by omega
        have i1 : IntKind.i64.wrap ((k : Int) - 15) = (k : Int) - 15 := IntWalk.i64_in _ (by omega)
        have i2 : IntKind.i64.wrap ((k : Int) - 2) = (k : Int) - 2 := IntWalk.i64_in _ (by omega)
        have i3 : IntKind.i64.wrap ((k : Int) - 7) = (k : Int) - 7 := IntWalk.i64_in _ (by omega)
        have i4 : IntKind.i64.wrap ((k : Int) - 16) = (k : Int) - 16 := IntWalk.i64_in _ (by omega)
        go_wp2_with fail
        go_quiet (fail)
        go_wp2_with fail
        refine (ror_any x15 7 _ (by decide)).mono ?_
        rintro e w' ⟨rfl, rfl⟩
        go_wp2_with fail
        refine (ror_any x15 18 _ (by decide)).mono ?_
        rintro e w' ⟨rfl, rfl⟩
        have rx := bits_xor_wn
        have s3 : ∀ x : W32, wn x / 8 = wn (wshr x 3) := fun x => shr_wn x 3
        have s10 : ∀ x : W32, wn x / 1024 = wn (wshr x 10) := fun x => shr_wn x 10
        go_wp2_with fail
        refine (ror_any x2 17 _ (by decide)).mono ?_
        rintro e w' ⟨rfl, rfl⟩
        go_wp2_with fail
        refine (ror_any x2 19 _ (by decide)).mono ?_
        rintro e w' ⟨rfl, rfl⟩
        have ra := add_wn
        go_wp2_with fail
        go_region
        all_goals
          clear e1 e2 e3 e4 f1 f2 f3 f4 g1 g2 g3 g4 i1 i2 i3 i4 rx s3 s10 ra c15 c2 c7 c16
          go_wp2
          go_roundw
          case rel =>
            refine ⟨k + 1, by omega, by go_num, ?_, (HK.out.drewN (nq + 1)).setCell (.inr (Nat.le_refl _)) _⟩
            rw [schN, HX.out, ← HSET.out, ← wvs_set]
            exact (heap_setCell_same (wr.drewN (nq + 1)) w.heap.size k _ _ (wv (wadd (wadd (wadd (sg1 x2) x7) (sg0 x15)) x16)) HW.out).trans (by rw [List.setIfInBounds_toArray])
          case measure => simp [intOf]; omega
    · obtain rfl : k = 64 := by omega
      rw [Nat.sub_self, List.replicate_zero, List.append_nil] at hW
      have hP1 := (hkp.block p hplt (by simp)).trans HP.out
      have hst : wr.rangeAt p 0 (wvs s.l) := fun j v hv => by
        rw [cell_of_row wr p _ _ _ _ hP1, Nat.zero_add]
        have hj : j < 8 := (List.getElem?_eq_some_iff.1 hv).1
        unfold digA
        rw [List.getElem?_toArray, List.getElem?_append_left (by rw [wvs_length]; exact hj)]
        exact hv
      have HW1 := Lib.hid hW
      have HP1 := Lib.hid hP1
      have HST := Lib.hid hst
      have hL1 := HL.out.below hkp
      clear hcell hW hkp hlen HW HC HLN hP1 hst
      go_wp2_with (first | (refine wpList_get_mid Tryd.t8w rfl rfl HST.out rfl rfl ?_) | (refine wpList_set Tryd.t8w rfl rfl (heap_alloc_new wr _) rfl rfl (wvs_one _) rfl rfl ?_; intro w2 h2 k2 s2; have KW := Lib.hid (kp_boxed k2 s2); have H2 := Lib.hid h2; clear h2 k2 s2))
      have HL2 := Lib.hid (hL1.below KW.out)
      have HW2 := Lib.hid ((KW.out.block _ (lt_of_block HW1.out) (by simp)).trans HW1.out)
      have HP2 := Lib.hid ((KW.out.block _ (lt_of_block HP1.out) (by simp)).trans HP1.out)
      have HK2 := Lib.hid (HK.out.trans KW.out (by simp))
      obtain ⟨g2, hg2⟩ : ∃ g2, g2 = wr.heap.size := ⟨_, rfl⟩
      have hgp : p < g2 := by have := HK.out.size; omega
      have hgw : w.heap.size < g2 := by rw [hg2]; exact lt_of_block HW1.out
      rw [← hg2] at H2 ⊢
      clear hL1 hg2
      have hws := schN_length b 64
      obtain ⟨ws, hwsd⟩ : ∃ ws, ws = schN b 64 := ⟨_, rfl⟩
      rw [← hwsd] at hws HW2
      have HWSD := Lib.hid hwsd
      clear hwsd
      go_loopw [73] (fun i wr => ∃ (k : Nat), k ≤ 64 ∧ i = .int .i64 k ∧ wr.heap[g2]? = some (.cells (wvs (rndN s ws k).l).toArray 50 (0, 0)) ∧ Kp [g2] w2 wr) (fun i _ => 64 - (intOf i).toNat)
      case atStart => exact ⟨0, by omega, rfl, H2.out, Kp.refl _ _⟩
      case round =>
        obtain ⟨k, hk, rfl, hG, hkp⟩ := hrel
        have HG := Lib.hid hG
        have HKP := Lib.hid hkp
        by_cases hlt : k < 64
        · have ct := (HL2.out.kept hkp (by have hsz := HL.out.size; simp; omega)).t k _ (wvs_at tableL k hlt)
          rw [Nat.zero_add] at ct
          have HW3 := (hkp.block _ (lt_of_block HW2.out) (by simp; omega)).trans HW2.out
          have cw : wr.cell? ⟨w.heap.size, k, none⟩ = some (.int .u32 (wn (ws.getD k 0))) := by
            rw [cell_of_row _ _ k _ _ _ HW3, List.getElem?_toArray]; exact wvs_at ws k (by omega)
          obtain ⟨kk, hkk⟩ : ∃ x, x = tableL.getD k 0 := ⟨_, rfl⟩
          obtain ⟨ww, hww⟩ : ∃ x, x = ws.getD k 0 := ⟨_, rfl⟩
          obtain ⟨st, hst⟩ : ∃ x, x = rndN s ws k := ⟨_, rfl⟩
          rw [← hkk] at ct
          rw [← hww] at cw
          rw [← hst] at hG
          have HRN := Lib.hid (show rndN s ws (k + 1) = rnd st kk ww by rw [rndN, hst, hkk, hww])
          obtain ⟨xa, xb, xc, xd, xe, xf, xg, xh⟩ := st
          have HG1 := Lib.hid hG
          have hfz := fun j => frozen_of_row wr g2 j _ _ hG
          have d0 : wr.cell? ⟨g2, 0, none⟩ = some (.int .u32 (wn xa)) := by rw [cell_of_row _ _ 0 _ _ _ hG]; rfl
          have d1 : wr.cell? ⟨g2, 1, none⟩ = some (.int .u32 (wn xb)) := by rw [cell_of_row _ _ 1 _ _ _ hG]; rfl
          have d2 : wr.cell? ⟨g2, 2, none⟩ = some (.int .u32 (wn xc)) := by rw [cell_of_row _ _ 2 _ _ _ hG]; rfl
          have d4 : wr.cell? ⟨g2, 4, none⟩ = some (.int .u32 (wn xe)) := by rw [cell_of_row _ _ 4 _ _ _ hG]; rfl
          have d5 : wr.cell? ⟨g2, 5, none⟩ = some (.int .u32 (wn xf)) := by rw [cell_of_row _ _ 5 _ _ _ hG]; rfl
          have d6 : wr.cell? ⟨g2, 6, none⟩ = some (.int .u32 (wn xg)) := by rw [cell_of_row _ _ 6 _ _ _ hG]; rfl
          have d7 : wr.cell? ⟨g2, 7, none⟩ = some (.int .u32 (wn xh)) := by rw [cell_of_row _ _ 7 _ _ _ hG]; rfl
          have hkk1 : (k : Int) < 64 := by omega
          have rx := bits_xor_wn
          have rn := bits_and_wn
          have rt := bits_not_wn
          have ra := add_wn
          have ra2 : ∀ x y : W32, IntKind.u32.wrap (wn x + wn y) = wn (wadd x y) := fun x y => by rw [← add_wn]; simp [IntKind.wrap, IntKind.bits, IntKind.signed]
          have rt2 : ∀ x : W32, bits .xor .u32 (if IntKind.u32.signed = true then -1 else IntKind.u32.max) (wn x) = wn (wnot x) := bits_not_wn
          clear hG hkp hkk hww hst HW3
          go_wp2_with fail
          go_quiet (fail)
          go_wp2_with fail
          go_quiet (((with_reducible refine calls_at (rorI _ _ _ (by decide)) ?_); first | (with_reducible exact drewN_at1 _ _ _) | (with_reducible exact drewN_at3 _ _ _ _) | (with_reducible exact drewN_at2 _ _ _ _)))
          go_wp2_with fail
          go_quiet (((with_reducible refine calls_at (rorI _ _ _ (by decide)) ?_); first | (with_reducible exact drewN_at1 _ _ _) | (with_reducible exact drewN_at3 _ _ _ _) | (with_reducible exact drewN_at2 _ _ _ _)))
          go_wp2_with fail
          clear d0 d1 d2 d4 d5 d6 d7 ct cw rx rn rt ra2 rt2 hfz
          have HQ := Lib.hid (show ∀ wX : World, wX.heap[g2]? = some (.cells (wvs [xa, xb, xc, xd, xe, xf, xg, xh]).toArray 50 (0, 0)) → Rd wX (some ⟨g2, 0, none⟩) 7 8 1 (wvs [xa, xb, xc, xd, xe, xf, xg]) from fun wX h => (rd_block (m := 8) h rfl (by simp [maxLen])).take 7 8 (by decide) (by decide) (by decide))
          have HG2 := Lib.hid (show wr.heap[g2]? = some (.cells (wvs [xa, xb, xc, xd, xe, xf, xg, xh]).toArray 50 (0, 0)) from HG1.out)
          go_region_law ((refine step_copy_rd rfl rfl Tryd.underlying60 (by kernel_rfl) rfl rfl (HQ.out _ HG2.out) HG2.out (by simp [wvs]) (wvs_one _) ?_; intro w5 h5 k5 s5; have h6 : w5.heap[g2]? = some (.cells (wvs [xa, xa, xb, xc, xd, xe, xf, xg]).toArray 50 (0, 0)) := h5; clear h5))
          all_goals
            have KK5 := Lib.hid (show Kp [g2] wr w5 from (((((Kp.refl [g2] wr).drewN _).drewN _).drewN _).drew).trans k5 (fun x hx _ => hx))
            have d4 : w5.cell? ⟨g2, 4, none⟩ = some (.int .u32 (wn xd)) := by rw [cell_of_row _ _ 4 _ _ _ h6]; rfl
            have d0 : w5.cell? ⟨g2, 0, none⟩ = some (.int .u32 (wn xa)) := by rw [cell_of_row _ _ 0 _ _ _ h6]; rfl
            have z4 := frozen_of_row w5 g2 4 _ _ h6
            have z0 := frozen_of_row w5 g2 0 _ _ h6
            have H6 := Lib.hid h6
            clear h6 k5 s5
            go_wp2
            go_roundw
            case rel =>
              refine ⟨k + 1, by omega, by go_num, ?_, ((HKP.out.trans KK5.out (fun x hx _ => hx)).setCell (.inl (by simp)) _).setCell (.inl (by simp)) _⟩
              rw [HRN.out]
              have r1 := heap_setCell_same w5 g2 4 _ _ (wv (wadd xd (t1W xe xf xg xh kk ww))) H6.out
              exact heap_setCell_same _ g2 0 _ _ (wv (wadd (t1W xe xf xg xh kk ww) (t2W xa xb xc))) r1
            case measure => simp [intOf]; omega
        · obtain rfl : k = 64 := by omega
          have hP3 := (hkp.block p (lt_of_block HP2.out) (by simp; omega)).trans HP2.out
          obtain ⟨t, ht⟩ : ∃ t, t = rndN s ws 64 := ⟨_, rfl⟩
          rw [← ht] at hG
          have HCM := Lib.hid (show comp s b = s.add t by rw [comp, ← HWSD.out, ht])
          have HG3 := Lib.hid hG
          have HP3 := Lib.hid hP3
          clear hG hkp ht hP3 HG
          go_wp2
          go_loopw [147] (fun i wr => ∃ (k : Nat), k ≤ 8 ∧ i = .int .i64 k ∧ wr.heap[g2]? = some (.cells (wvs t.l).toArray 50 (0, 0)) ∧ wr.heap[p]? = some (.cells (wvs ((s.add t).l.take k ++ s.l.drop k) ++ [v, .int .i64 n]).toArray 52 (0, 0)) ∧ Kp [p] w wr) (fun i _ => 8 - (intOf i).toNat)
          case atStart => exact ⟨0, by omega, rfl, HG3.out, HP3.out, (HK2.out.mono (by simp)).trans HKP.out (fun x hx hlt => by simp at hx; omega)⟩
          case round =>
            obtain ⟨k, hk, rfl, hG, hP, hkp⟩ := hrel
            have hml := mix_length s t k hk
            have HP4 := Lib.hid hP
            have HG4 := Lib.hid hG
            have HK4 := Lib.hid hkp
            by_cases hlt : k < 8
            · have cp : wr.cell? ⟨p, k, none⟩ = some (.int .u32 (wn (s.l.getD k 0))) := by
                rw [cell_of_row _ _ k _ _ _ hP, List.getElem?_toArray, List.getElem?_append_left (by rw [wvs_length, hml]; exact hlt), wvs_at _ _ (by omega), mix_at s t k hlt]
              have cg : wr.cell? ⟨g2, k, none⟩ = some (.int .u32 (wn (t.l.getD k 0))) := by
                rw [cell_of_row _ _ k _ _ _ hG, List.getElem?_toArray, wvs_at _ _ hlt]
              have zp := frozen_of_row wr p k _ _ hP
              have HMS := Lib.hid (mix_set s t k hlt)
              obtain ⟨x, hx⟩ : ∃ x, x = s.l.getD k 0 := ⟨_, rfl⟩
              obtain ⟨y, hy⟩ : ∃ y, y = t.l.getD k 0 := ⟨_, rfl⟩
              rw [← hx] at cp HMS
              rw [← hy] at cg HMS
              have hk8 : (k : Int) < 8 := by omega
              have ra := add_wn
              have ra2 : ∀ x y : W32, IntKind.u32.wrap (wn x + wn y) = wn (wadd x y) := fun x y => by rw [← add_wn]; simp [IntKind.wrap, IntKind.bits, IntKind.signed]
              have HML := Lib.hid hml
              clear hG hP hkp hx hy hml
              go_wp2_with fail
              go_region
              all_goals
                clear ra ra2 cp cg zp hk8
                go_wp2
                go_roundw
                case rel =>
                  have hpg : p ≠ g2 := by omega
                  refine ⟨k + 1, by omega, by go_num, ?_, ?_, (HK4.out.drew).setCell (.inl (by simp)) _⟩
                  · exact (Below.heap_setCell wr.drew ⟨p, k, none⟩ _ g2 (fun hh => hpg hh.symm)).trans HG4.out
                  · refine (heap_setCell_same wr.drew p k _ _ (wv (wadd x y)) HP4.out).trans ?_
                    rw [List.setIfInBounds_toArray, List.set_append_left _ _ (by rw [wvs_length, HML.out]; exact hlt), wvs_set, HMS.out]
                case measure => simp [intOf]; omega
            · obtain rfl : k = 8 := by omega
              clear hG hP hkp hml
              go_wp2
              go_end0
              exact ⟨rfl, by rw [HCM.out]; exact HP4.out, HK4.out⟩
end Go.Proofs.YtgfppmnpccaloaaDoor
