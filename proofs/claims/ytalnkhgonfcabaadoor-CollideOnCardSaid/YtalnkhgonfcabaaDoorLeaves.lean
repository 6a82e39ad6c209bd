/-
  merkle.Leaves: the leaves' hashes, in order; and how a list of byte slices is read.
-/
import Derived.Test.YtalnkhgonfcabaaDoorMerk4
import Derived.Test.YtalnkhgonfcabaaDoorOpen
namespace Go.Proofs.YtalnkhgonfcabaaDoor
open Go.ChangeShapes Go.WideShapes Go.ChangeAt Go.RowKit

theorem flatMap_pt (l : List Pt) : l.flatMap (fun p => [ptV p]) = pts l := by
  induction l with
  | nil => rfl
  | cons b l ih => rw [List.flatMap_cons, ih]; rfl
theorem reads_bytess {H : Type} {enc : TypeId × Value → H} {P : Program} {W : World} {t s e : TypeId} {cs : List Value} (hu : P.underlying t = some (.slice s)) (hs : P.underlying s = some (.slice e)) (he : P.underlying e = some (.int .u8)) (hcs : P.cellsOf s = 1) (hce : P.cellsOf e = 1) (h : Reads enc P W t cs) :
    ∃ a c l, cs = [.slice a (l : List Pt).length c] ∧ Rd W a l.length c 1 (pts l) ∧ ∀ p ∈ l, Rd W p.a p.l.length p.c 1 (bcs p.l) := by
  obtain ⟨a, c, l, h1, h2, h3⟩ := open_rd (fun p : Pt => [ptV p]) (fun p => Rd W p.a p.l.length p.c 1 (bcs p.l)) hu hcs (by decide) (fun _ => rfl) (fun cs hr => by
    obtain ⟨a, c, l, hb, hr⟩ := reads_bytes hs he hce hr
    exact ⟨⟨a, c, l⟩, by rw [hb]; rfl, hr⟩) h
  exact ⟨a, c, l, h1, by rw [← flatMap_pt]; exact h2, h3⟩

def leavesH (l : List Pt) : List Hsh := l.map fun p => leafH p.l
theorem leavesH_length (l : List Pt) : (leavesH l).length = l.length := by unfold leavesH; rw [List.length_map]

set_option maxHeartbeats 1000000 in
theorem leaves_any (l : List Pt) (a : Option Addr) (c : Nat) (w : World) (hr : Rd w a l.length c 1 (pts l)) (hp : ∀ p ∈ l, Rd w p.a p.l.length p.c 1 (bcs p.l)) (hll : l.length ≤ 100000) (hL : Laid w) (h2 : 4 ≤ w.heap.size) :
    Calls Tryd.prog 99 #[.slice a l.length c] w fun e w' => ∃ v, e = .returned v ∧ NewHs w v w' (leavesH l) := by
  obtain ⟨i0, T⟩ := Tryd.thashes
  have HT := Lib.hid T
  have HR := Lib.hid hr
  have HP := Lib.hid hp
  have HL := Lib.hid hL
  clear T hr hp hL
  go_enter Tryd.func99, Tryd.ntmps99
  go_wp2
  go_loopw [3, 5, 8] (fun v _ i wr => ∃ (k : Nat) (a2 : Option Addr) (c2 : Nat), k ≤ l.length ∧ i = .int .i64 k ∧ v = .slice a2 k c2 ∧ wr.ownsRow 0 33 32 (.slice a2 k c2) k (hsc (leavesH (l.take k))) ∧ (∀ x ∈ aF a2, w.heap.size ≤ x) ∧ Kp [] w wr) (fun _ _ i _ => l.length - (intOf i).toNat)
  case atStart => exact ⟨0, none, 0, by omega, rfl, rfl, World.ownsRow_nil _ _ _ _, by simp [aF], Kp.refl _ _⟩
  case round =>
    obtain ⟨k, a2, c2, hk, rfl, rfl, hown, hF, hkp⟩ := hrel
    by_cases hlt : k < l.length
    · obtain ⟨bp, op, rfl, _, hcp⟩ := (HR.out.below hkp).spot (by rw [pts_length]; omega)
      have hck := hcp k _ (pts_at l k hlt)
      have hrs : leavesH (l.take (k + 1)) = leavesH (l.take k) ++ [leafH l[k].l] := by
        rw [List.take_succ_eq_append_getElem hlt]; unfold leavesH; rw [List.map_append]; rfl
      have hyr := HP.out l[k] (List.getElem_mem hlt)
      obtain ⟨⟨ya, yc, yl⟩, hy⟩ : ∃ y, y = l[k] := ⟨_, rfl⟩
      rw [← hy] at hck hrs hyr
      simp only at hck hrs hyr
      obtain ⟨x, hx⟩ : ∃ x, x = leafH yl := ⟨_, rfl⟩
      have hcall := leaf_any ya yc yl wr (hyr.below hkp) (HL.out.below hkp) (Nat.le_trans h2 hkp.size)
      rw [← hx] at hrs hcall
      have HC := Lib.hid hcall
      have HRS := Lib.hid hrs
      have HO := Lib.hid hown
      have HF := Lib.hid hF
      have HKP := Lib.hid hkp
      clear hcall hrs hown hF hkp hcp hx hy hyr
      go_wp2_with fail
      refine HC.out.mono ?_
      rintro e w3 ⟨rfl, k3⟩
      have K3 := Lib.hid (HKP.out.trans k3 (by simp))
      have HO3 := Lib.hid (own_kept HO.out k3 (by simp))
      clear k3
      go_wp2_with (first | (refine wpList_lit HT.out rfl rfl [hv x] rfl (by first | rfl | (simp [Act.eval]; done) | (simp [Act.eval]; rfl)) (hvs_size [x]) (by simp) ?_) | (at_builtin; refine wpList_append_rd HT.out rfl rfl rfl (HO3.out.alloc _) rfl (rd_alloc (m := 1) (by rw [flatV_one]; simp [hcs_length]) (by simp [maxLen])) (by rw [flatV_one]; exact hcs_one x) (by omega) (by simp [maxLen]; omega) ?_; intro a4 c4 w4 hown4 hgrow4 hF4; have HO4 := Lib.hid hown4; have HG4 := Lib.hid hgrow4; have HF4 := Lib.hid hF4; clear hown4 hgrow4 hF4))
      go_roundw
      case rel =>
        refine ⟨k + 1, a4, c4, by omega, by go_num, rfl, ?_, fun y hy => ?_, (K3.out.alloc _).pushed HG4.out (fun y hy => .inr (HF.out y hy))⟩
        · rw [HRS.out, hsc_snoc]
          have := HO4.out
          rw [flatV_one] at this
          exact this
        · rcases HF4.out y hy with h | h
          · exact HF.out y h
          · rw [h]; have := K3.out.size; simp; omega
      case measure => simp [intOf]; omega
    · obtain rfl : k = l.length := by omega
      have HO := Lib.hid hown
      have HF := Lib.hid hF
      have HKP := Lib.hid hkp
      clear hown hF hkp
      go_wp2
      go_ret
      have h := HO.out
      rw [List.take_length] at h
      exact ⟨_, rfl, a2, c2, by rw [leavesH_length]; rfl, by rw [leavesH_length]; exact h, HF.out, HKP.out⟩
end Go.Proofs.YtalnkhgonfcabaaDoor
