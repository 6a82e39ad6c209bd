import Derived.Test.YtngdbblgnimogaaWire4
namespace Go.Proofs.Ytngdbblgnimogaa
open Go.RowKit

theorem Try.thash : ArT Try.prog 39 32 := ⟨⟨_, _, Try.underlying39⟩, by kernel_rfl⟩

theorem hash_any (p : Nat) (s : St) (G : List Nat) (w : World) (h : InAt w p s G) (hGlt : ∀ x ∈ G, x < w.heap.size) :
    Calls Try.prog 20 #[.pointer (some ⟨p, 0, none⟩)] w fun e w' => e = .returned (hv (rHash s).1) ∧ InAt w' p (rHash s).2 G ∧ Kp [p] w w' := by
  have H := Lib.hid h
  have HG := Lib.hid hGlt
  clear h hGlt
  cases ht : rTake 32 s with
  | none =>
    have hr : rHash s = (zeroH, none) := by simp [rHash, ht]
    have HB := Lib.hid (rTake_bad ht)
    rw [hr]
    clear hr ht
    go_enter Try.func20, Try.ntmps20
    go_wp2
    rw [zeroH_lit]
    go_region_law (first | (go_simp; refine (take_bad p 32 s G _ ((H.out.kept (Kp.refl [] w) (by simp) (by simp)).kept (((Kp.refl [] w).alloc _).alloc _).drew (by simp) (by simp)) HB.out).mono ?_; rintro e w1 ⟨rfl, h1, k1⟩; have hb2 := (k1.block (w.heap.size + 1) (by simp) (by have := H.out.lt; simp; omega)).trans (heap_alloc2_new w _ _)) | (refine step_copy_rd (dT := 22) rfl rfl Try.underlying22 (by kernel_rfl) rfl rfl (nil_rd _ 1) hb2 (by simp) (by simp) ?_; intro w5 h5 k5 s5))
    have hb1 : w1.heap[w.heap.size]? = some (.cells (hvA zeroH) 39 (0, 0)) := (k1.block w.heap.size (by simp; omega) (by have := H.out.lt; simp; omega)).trans (heap_alloc2_old w _ _)
    have hb1 := (k5.block _ (lt_of_block hb1) (by simp)).trans hb1
    have h5 : w5.heap[w.heap.size + 1]? = some (.cells (hvA zeroH) 39 (0, 0)) := by rw [h5]; simp [splice_none]
    have h1 := h1.kept k5 (by have := H.out.lt; simp; omega) (by intro x hx; have := HG.out x hx; simp; omega)
    have K1 := Lib.hid ((((Kp.refl [p] w).alloc _).alloc _).drew.trans k1 (by simp) |>.trans k5 (by simp; omega))
    clear k1 k5 hb2
    go_wp2_with (first | (refine wpList_get Try.thash rfl rfl h5 (hvA_size _) rfl ?_) | (refine wpList_set Try.thash rfl rfl hb1 (hvA_size _) (hvA_size zeroH) (hvA_one _) rfl rfl ?_; intro w6 h6 k6 s6))
    refine ret_block Try.thash rfl h6 (hvA_size _) rfl rfl ⟨rfl, ?_, ?_⟩
    · exact h1.kept k6 (by have := H.out.lt; simp; omega) (by intro x hx; have := HG.out x hx; simp; omega)
    · exact K1.out.trans k6 (by simp)
  | some x =>
    obtain ⟨l, r⟩ := x
    obtain ⟨b, rfl, hb, rfl, rfl⟩ := rTake_good ht
    have hr : rHash (some b) = (toH (b.take 32), some (b.drop 32)) := by simp [rHash, ht]
    have hlen : (b.take 32).length = 32 := by simp; omega
    rw [hr]
    have HL := Lib.hid hlen
    clear hr ht hlen
    go_enter Try.func20, Try.ntmps20
    go_wp2
    rw [zeroH_lit]
    go_region_law (first | (go_simp; refine (take_ok p 32 b G _ ((H.out.kept (Kp.refl [] w) (by simp) (by simp)).kept (((Kp.refl [] w).alloc _).alloc _).drew (by simp) (by simp)) hb).mono ?_; rintro e w1 ⟨a, c, rfl, hrd, hG, h1, k1⟩; have hb2 := (k1.block (w.heap.size + 1) (by simp) (by have := H.out.lt; simp; omega)).trans (heap_alloc2_new w _ _)) | (refine step_copy_rd (dT := 22) rfl rfl Try.underlying22 (by kernel_rfl) rfl rfl hrd hb2 (by simp [hvA_size]) (bcs_one _) ?_; intro w5 h5 k5 s5))
    have hb1 : w1.heap[w.heap.size]? = some (.cells (hvA zeroH) 39 (0, 0)) := (k1.block w.heap.size (by simp; omega) (by have := H.out.lt; simp; omega)).trans (heap_alloc2_old w _ _)
    have hb1 := (k5.block _ (lt_of_block hb1) (by simp)).trans hb1
    have h5 : w5.heap[w.heap.size + 1]? = some (.cells (hvA (toH (b.take 32))) 39 (0, 0)) := by
      rw [h5, Nat.min_self, List.take_of_length_le (by rw [bcs_length, HL.out]; exact Nat.le_refl _), splice_full _ _ (by rw [bcs_length, HL.out]; simp [hvA_size])]
      unfold hvA hcs; rw [toH_of _ HL.out]
    have h1 := h1.kept k5 (by have := H.out.lt; simp; omega) (by intro x hx; have := HG.out x hx; simp; omega)
    have K1 := Lib.hid ((((Kp.refl [p] w).alloc _).alloc _).drew.trans k1 (by simp) |>.trans k5 (by simp; omega))
    clear k1 k5 hb2 hrd hG
    go_wp2_with (first | (refine wpList_get Try.thash rfl rfl h5 (hvA_size _) rfl ?_) | (refine wpList_set Try.thash rfl rfl hb1 (hvA_size _) (hvA_size _) (hvA_one _) rfl rfl ?_; intro w6 h6 k6 s6))
    refine ret_block Try.thash rfl h6 (hvA_size _) rfl rfl ⟨rfl, ?_, ?_⟩
    · exact h1.kept k6 (by have := H.out.lt; simp; omega) (by intro x hx; have := HG.out x hx; simp; omega)
    · exact K1.out.trans k6 (by simp)

end Go.Proofs.Ytngdbblgnimogaa
