import Derived.Test.YtngdbblgnimogaaMem
namespace Go.Proofs.Ytngdbblgnimogaa
open Go.RowKit

theorem Try.tbytes : ∃ i, SlT Try.prog 22 5 i (.int .u8 0) 1 1 := SlT.mk' Try.underlying22 (by kernel_rfl) rfl (by decide)

def byteOf (n : Int) : UInt8 := UInt8.ofNat (n % 256).toNat
theorem bcell_byteOf (n : Int) : bcell (byteOf n) = .int .u8 (IntKind.u8.wrap n) := by
  have h : IntKind.u8.wrap n = n % 256 := by simp [IntKind.wrap, IntKind.bits, IntKind.signed]
  have h1 := Int.emod_nonneg n (show (256 : Int) ≠ 0 by decide)
  have h2 := Int.emod_lt_of_pos n (show (0 : Int) < 256 by decide)
  rw [h]; unfold bcell byteOf
  rw [show (UInt8.ofNat (n % 256).toNat).toNat = (n % 256).toNat from by simp; omega]
  congr 1
  omega
/-- A number's bytes, the highest first; so many of them. -/
def beTo (s : Nat) (n : Int) (k : Nat) : List UInt8 := (List.range k).map fun (i : Nat) => byteOf (n / 2 ^ (8 * ((s : Int) - 1 - i)).toNat)
def be (s : Nat) (n : Int) : List UInt8 := beTo s n s
theorem beTo_succ (s : Nat) (n : Int) (k : Nat) : beTo s n (k + 1) = beTo s n k ++ [byteOf (n / 2 ^ (8 * ((s : Int) - 1 - (k : Int))).toNat)] := by unfold beTo; rw [List.range_succ, List.map_append]; rfl
theorem beTo_length (s : Nat) (n : Int) (k : Nat) : (beTo s n k).length = k := by simp [beTo]

def OutIs (w : World) (p : Nat) (v : Value) (bs : List UInt8) : Prop :=
  w.heap[p]? = some (.cells #[v] 24 (0, 0)) ∧ w.ownsRow 0 5 1 v bs.length (bcs bs)
def OutAt (w : World) (p : Nat) (bs : List UInt8) (F : List Nat) : Prop := ∃ v, OutIs w p v bs ∧ F = p :: rowF v

theorem out_keep {w W w1 : World} {p : Nat} {v : Value} {bs : List UInt8} (h : OutIs w p v bs) (hW : Kp [] w W) (hg : W.grownBy w1 v.ownBlock) : w1.heap[p]? = some (.cells #[v] 24 (0, 0)) := by
  have hp := lt_of_block h.1
  have := hW.size
  rw [hg.block p (by omega) (fun e => own_ne h.1 h.2 (by decide) e.symm), hW.block p hp (by simp)]
  exact h.1
/-- What a push leaves of an Out. -/
theorem out_pushed {w W w1 : World} {p : Nat} {v : Value} {bs : List UInt8} {g cap : Nat} {new : List UInt8} {c : List Value} {n : Nat} (h : OutIs w p v bs) (hW : Kp [] w W) (hc : c = bcs new) (hn : n = bs.length + new.length)
    (hown : w1.ownsRow 0 5 1 (.slice (some ⟨g, 0, none⟩) n cap) n (bcs bs ++ c))
    (hgrow : W.grownBy w1 v.ownBlock) (hg : v.ownBlock = some g ∨ g = W.heap.size) :
    OutAt (w1.setCell ⟨p, 0, none⟩ (.slice (some ⟨g, 0, none⟩) n cap)) p (bs ++ new) [p, g] ∧
      Adv (p :: rowF v) [p, g] w (w1.setCell ⟨p, 0, none⟩ (.slice (some ⟨g, 0, none⟩) n cap)) := by
  subst hc hn
  have hb := out_keep h hW hgrow
  have hne := own_ne hb hown (by decide)
  refine ⟨⟨_, ⟨one_setCell hb, ?_⟩, rfl⟩, ((hW.mono (by simp)).grown hgrow ?_).setCell (.inl (by simp)) _, ?_⟩
  · have := ownsRow_setCell_other hown (a := ⟨p, 0, none⟩) hne (.slice (some ⟨g, 0, none⟩) (bs.length + new.length) cap)
    rw [List.length_append, bcs_app]
    exact this
  · intro k hk
    rw [rowF_of hk]; simp
  · intro x hx
    simp at hx
    rcases hx with rfl | rfl
    · simp
    · rcases hg with hg | rfl
      · rw [rowF_of hg]; simp
      · right; exact hW.size

set_option maxHeartbeats 400000 in
theorem number_any (p : Nat) (bs : List UInt8) (F : List Nat) (n : Int) (s : Nat) (w : World) (h : OutAt w p bs F) (hl : bs.length ≤ 4294967296) (hs : s ≤ 8) :
    Calls Try.prog 27 #[.pointer (some ⟨p, 0, none⟩), .int .i64 n, .int .i64 s] w fun e w' => e = .returned (.tuple #[]) ∧ ∃ F', OutAt w' p (bs ++ be s n) F' ∧ Adv F F' w w' := by
  obtain ⟨i0, T⟩ := Try.tbytes
  go_enter Try.func27, Try.ntmps27
  go_wp2
  go_loopw [8] (fun i wr => ∃ (k : Nat) (F' : List Nat), k ≤ s ∧ i = .int .i64 k ∧ OutAt wr p (bs ++ beTo s n k) F' ∧ Adv F F' w wr) (fun i _ => s - (intOf i).toNat)
  case atStart => exact ⟨0, F, by omega, rfl, by simpa [beTo] using h, Adv.refl _ _⟩
  case round =>
    obtain ⟨k, F', hk, rfl, ⟨v, hv, rfl⟩, hA⟩ := hrel
    obtain ⟨cs, hcs⟩ : ∃ cs, cs = bs ++ beTo s n k := ⟨_, rfl⟩
    rw [← hcs] at hv
    have hcl : cs.length ≤ 4294967304 := by rw [hcs, List.length_append, beTo_length]; omega
    have HC := Lib.hid hcs
    clear hcs
    have hcell : wr.cell? ⟨p, 0, none⟩ = some v := cell_of_one hv.1
    have hfree : wr.frozen? ⟨p, 0, none⟩ = false := free_of_one hv.1
    have hplt := lt_of_block hv.1
    have hca : ∀ o, (wr.alloc o).cell? ⟨p, 0, none⟩ = some v := fun o => by rw [World.cell?_alloc_past _ _ _ hplt]; exact hcell
    have HV := Lib.hid hv
    have HA := Lib.hid hA
    clear hv hA
    by_cases hlt : k < s
    · go_wp2
      have e0 : IntKind.i64.wrap (s - 1) = (s : Int) - 1 := IntWalk.i64_in _ (by omega)
      have e1 : IntKind.i64.wrap (s - 1 - k) = (s : Int) - 1 - k := IntWalk.i64_in _ (by omega)
      have e2 : IntKind.i64.wrap (8 * ((s : Int) - 1 - k)) = 8 * ((s : Int) - 1 - k) := IntWalk.i64_in _ (by omega)
      have b1 : 0 ≤ 8 * ((s : Int) - 1 - k) := by omega
      have b2 : 8 * ((s : Int) - 1 - k) < 64 := by omega
      go_region_law ((refine step_push (B := wr.heap.size) (m := 1) (c := 1) T rfl rfl (by simp [Act.eval]) ((HV.out.2.alloc _).drew) (by simp [Act.eval]) (heap_alloc_new wr _) rfl (by simp [Value.oneCell']) (by decide) (by omega) (by simp [maxLen]; omega) ?_); intro g cap w1 hown hgrow hg hlt1; have hb1 := out_keep HV.out (((Kp.refl _ _).alloc _).drew) hgrow; have hc1 := cell_of_one hb1; have hf1 := free_of_one hb1; have P1 := Lib.hid (out_pushed HV.out (((Kp.refl _ _).alloc _).drew) (new := [byteOf (n / 2 ^ (8 * ((s : Int) - 1 - k)).toNat)]) (by simp [bcs, bcell_byteOf]) rfl hown hgrow hg); clear hown hgrow hg hb1)
      all_goals
        clear e0 e1 e2 b1 b2
        go_wp2
        go_roundw
        case rel => exact ⟨k + 1, _, by omega, by go_num, by rw [beTo_succ, ← List.append_assoc, ← HC.out]; exact P1.out.1, HA.out.trans P1.out.2⟩
        case measure => simp [intOf]; omega
    · obtain rfl : k = s := by omega
      go_wp2
      go_end0
      exact ⟨rfl, _, ⟨v, by unfold be; rw [← HC.out]; exact HV.out, rfl⟩, HA.out⟩

end Go.Proofs.Ytngdbblgnimogaa
