/-
  Wire1, Wire2, Wire3, Wire4, Wire5, Wire6, Wire7, Wire8, Wire9, Ref1, Ref2, Ref3, put into one text.
-/
import Derived.Test.YtalnkhgonfcabaaDoorBytes
import Derived.Laws.OwnMore
namespace Go.Proofs.YtalnkhgonfcabaaDoor
open Go.RowKit


def OutIs (w : World) (p : Nat) (v : Value) (bs : List UInt8) : Prop :=
  w.heap[p]? = some (.cells #[v] 110 (0, 0)) ∧ w.ownsRow 0 5 1 v bs.length (bcs bs)
def OutAt (w : World) (p : Nat) (bs : List UInt8) (F : List Nat) : Prop := ∃ v, OutIs w p v bs ∧ F = p :: rowF v

theorem out_keep {w W w1 : World} {p : Nat} {v : Value} {bs : List UInt8} (h : OutIs w p v bs) (hW : Kp [] w W) (hg : W.grownBy w1 v.ownBlock) : w1.heap[p]? = some (.cells #[v] 110 (0, 0)) := by
  have hp := lt_of_block h.1
  have := hW.size
  rw [hg.block p (by omega) (fun e => own_ne h.1 h.2 (by decide) e.symm), hW.block p hp (by simp)]
  exact h.1
/-- What a push leaves of an Out. -/
theorem out_pushed {w W w1 : World} {p : Nat} {v : Value} {bs : List UInt8} {g cap : Nat} {new : List UInt8} {c : List Value} {n : Nat} (h : OutIs w p v bs) (hW : Kp [] w W) (hc : c = bcs new) (hn : n = bs.length + new.length)
    (hown : w1.ownsRow 0 5 1 (.slice (some ⟨g, 0, none⟩) n cap) n (bcs bs ++ c))
    (hgrow : W.grownBy w1 v.ownBlock) (hg : v.ownBlock = some g ∨ g = W.heap.size) :
    OutAt (w1.setCell ⟨p, 0, none⟩ (.slice (some ⟨g, 0, none⟩) n cap)) p (bs ++ new) [p, g] ∧
      Adv (p :: rowF v) [p, g] w (w1.setCell ⟨p, 0, none⟩ (.slice (some ⟨g, 0, none⟩) n cap)) := by
  subst hc hn
  have hb := out_keep h hW hgrow
  have hne := own_ne hb hown (by decide)
  refine ⟨⟨_, ⟨one_setCell hb, ?_⟩, rfl⟩, ((hW.mono (by simp)).grown hgrow ?_).setCell (.inl (by simp)) _, ?_⟩
  · have := ownsRow_setCell_other hown (a := ⟨p, 0, none⟩) hne (.slice (some ⟨g, 0, none⟩) (bs.length + new.length) cap)
    rw [List.length_append, bcs_app]
    exact this
  · intro k hk
    rw [rowF_of hk]; simp
  · intro x hx
    simp at hx
    rcases hx with rfl | rfl
    · simp
    · rcases hg with hg | rfl
      · rw [rowF_of hg]; simp
      · right; exact hW.size

set_option maxHeartbeats 400000 in
theorem number_any (p : Nat) (bs : List UInt8) (F : List Nat) (n : Int) (s : Nat) (w : World) (h : OutAt w p bs F) (hl : bs.length ≤ 4294967296) (hs : s ≤ 8) :
    Calls Tryd.prog 117 #[.pointer (some ⟨p, 0, none⟩), .int .i64 n, .int .i64 s] w fun e w' => e = .returned (.tuple #[]) ∧ ∃ F', OutAt w' p (bs ++ be s n) F' ∧ Adv F F' w w' := by
  obtain ⟨i0, T⟩ := Tryd.tbytes
  go_enter Tryd.func117, Tryd.ntmps117
  go_wp2
  go_loopw [8] (fun i wr => ∃ (k : Nat) (F' : List Nat), k ≤ s ∧ i = .int .i64 k ∧ OutAt wr p (bs ++ beTo s n k) F' ∧ Adv F F' w wr) (fun i _ => s - (intOf i).toNat)
  case atStart => exact ⟨0, F, by omega, rfl, by simpa [beTo] using h, Adv.refl _ _⟩
  case round =>
    obtain ⟨k, F', hk, rfl, ⟨v, hv, rfl⟩, hA⟩ := hrel
    obtain ⟨cs, hcs⟩ : ∃ cs, cs = bs ++ beTo s n k := ⟨_, rfl⟩
    rw [← hcs] at hv
    have hcl : cs.length ≤ 4294967304 := by rw [hcs, List.length_append, beTo_length]; omega
    have HC := Lib.hid hcs
    clear hcs
    have hcell : wr.cell? ⟨p, 0, none⟩ = some v := cell_of_one hv.1
    have hfree : wr.frozen? ⟨p, 0, none⟩ = false := free_of_one hv.1
    have hplt := lt_of_block hv.1
    have hca : ∀ o, (wr.alloc o).cell? ⟨p, 0, none⟩ = some v := fun o => by rw [World.cell?_alloc_past _ _ _ hplt]; exact hcell
    have HV := Lib.hid hv
    have HA := Lib.hid hA
    clear hv hA
    by_cases hlt : k < s
    · go_wp2
      have e0 : IntKind.i64.wrap (s - 1) = (s : Int) - 1 := IntWalk.i64_in _ (by omega)
      have e1 : IntKind.i64.wrap (s - 1 - k) = (s : Int) - 1 - k := IntWalk.i64_in _ (by omega)
      have e2 : IntKind.i64.wrap (8 * ((s : Int) - 1 - k)) = 8 * ((s : Int) - 1 - k) := IntWalk.i64_in _ (by omega)
      have b1 : 0 ≤ 8 * ((s : Int) - 1 - k) := by omega
      have b2 : 8 * ((s : Int) - 1 - k) < 64 := by omega
      go_region_law ((refine step_push (B := wr.heap.size) (m := 1) (c := 1) T rfl rfl (by simp [Act.eval]) ((HV.out.2.alloc _).drew) (by simp [Act.eval]) (heap_alloc_new wr _) rfl (by simp [Value.oneCell']) (by decide) (by omega) (by simp [maxLen]; omega) ?_); intro g cap w1 hown hgrow hg hlt1; have hb1 := out_keep HV.out (((Kp.refl _ _).alloc _).drew) hgrow; have hc1 := cell_of_one hb1; have hf1 := free_of_one hb1; have P1 := Lib.hid (out_pushed HV.out (((Kp.refl _ _).alloc _).drew) (new := [byteOf (n / 2 ^ (8 * ((s : Int) - 1 - k)).toNat)]) (by simp [bcs, bcell_byteOf]) rfl hown hgrow hg); clear hown hgrow hg hb1)
      all_goals
        clear e0 e1 e2 b1 b2
        go_wp2
        go_roundw
        case rel => exact ⟨k + 1, _, by omega, by go_num, by rw [beTo_succ, ← List.append_assoc, ← HC.out]; exact P1.out.1, HA.out.trans P1.out.2⟩
        case measure => simp [intOf]; omega
    · obtain rfl : k = s := by omega
      go_wp2
      go_end0
      exact ⟨rfl, _, ⟨v, by unfold be; rw [← HC.out]; exact HV.out, rfl⟩, HA.out⟩

end Go.Proofs.YtalnkhgonfcabaaDoor

namespace Go.Proofs.YtalnkhgonfcabaaDoor
open Go.RowKit

def InIs (w : World) (p : Nat) (a : Option Addr) (c : Nat) (bad : Bool) (bs : List UInt8) : Prop :=
  w.heap[p]? = some (.cells #[.slice a bs.length c, .bool bad] 160 (0, 0)) ∧ Rd w a bs.length c 1 (bcs bs) ∧ p ∉ aF a
/-- A reader at p: 'none': it is bad; what is left; G: the blocks that it reads. -/
def InAt (w : World) (p : Nat) (st : Option (List UInt8)) (G : List Nat) : Prop :=
  ∃ a c bs, InIs w p a c st.isNone bs ∧ (∀ x ∈ aF a, x ∈ G) ∧ ∀ l, st = some l → l = bs

theorem InAt.kept {F : List Nat} {w w' : World} {p : Nat} {st : Option (List UInt8)} {G : List Nat} (h : InAt w p st G) (k : Kp F w w') (hp : p ∉ F) (hG : ∀ x ∈ G, x ∉ F) : InAt w' p st G := by
  obtain ⟨a, c, bs, ⟨h1, h2, h3⟩, h4, h5⟩ := h
  exact ⟨a, c, bs, ⟨(k.block p (lt_of_block h1) hp).trans h1, h2.kept k fun x hx => hG x (h4 x hx), h3⟩, h4, h5⟩

theorem InAt.bad {w : World} {p : Nat} {G : List Nat} (h : InAt w p none G) : w.cell? ⟨p, 1, none⟩ = some (.bool true) := by
  obtain ⟨a, c, bs, ⟨h1, _, _⟩, _, _⟩ := h
  rw [cell_of_row w p 1 _ _ _ h1]; rfl
theorem InAt.good {w : World} {p : Nat} {l : List UInt8} {G : List Nat} (h : InAt w p (some l) G) : w.cell? ⟨p, 1, none⟩ = some (.bool false) := by
  obtain ⟨a, c, bs, ⟨h1, _, _⟩, _, _⟩ := h
  rw [cell_of_row w p 1 _ _ _ h1]; rfl
theorem InAt.flag {w : World} {p : Nat} {st : Option (List UInt8)} {G : List Nat} (h : InAt w p st G) : w.cell? ⟨p, 1, none⟩ = some (.bool st.isNone) := by
  cases st with
  | none => exact h.bad
  | some l => exact h.good
theorem InAt.free {w : World} {p : Nat} {st : Option (List UInt8)} {G : List Nat} (h : InAt w p st G) (o : Nat) : w.frozen? ⟨p, o, none⟩ = false := by
  obtain ⟨a, c, bs, ⟨h1, _, _⟩, _, _⟩ := h
  simp [World.frozen?, h1]
theorem InAt.lt {w : World} {p : Nat} {st : Option (List UInt8)} {G : List Nat} (h : InAt w p st G) : p < w.heap.size := by
  obtain ⟨a, c, bs, ⟨h1, _, _⟩, _, _⟩ := h
  exact lt_of_block h1

/-- A reader that has gone bad. -/
theorem InAt.spoil {w : World} {p : Nat} {st : Option (List UInt8)} {G : List Nat} (h : InAt w p st G) : InAt (w.setCell ⟨p, 1, none⟩ (.bool true)) p none G ∧ Kp [p] w (w.setCell ⟨p, 1, none⟩ (.bool true)) := by
  obtain ⟨a, c, bs, ⟨h1, h2, h3⟩, h4, h5⟩ := h
  have k : Kp [p] w (w.setCell ⟨p, 1, none⟩ (.bool true)) := (Kp.refl _ _).setCell (.inl (by simp)) _
  refine ⟨⟨a, c, bs, ⟨?_, h2.kept k (fun x hx hh => h3 (by simp at hh; subst hh; exact hx)), h3⟩, h4, by simp⟩, k⟩
  rw [heap_setCell_same w p 1 _ _ _ h1]; rfl

/-- What 'take' leaves. -/
theorem take_done {w : World} {p n : Nat} {a a' : Option Addr} {c c' : Nat} {l : List UInt8} {G : List Nat} (h1 : w.heap[p]? = some (.cells #[.slice a l.length c, .bool false] 160 (0, 0))) (h2 : Rd w a l.length c 1 (bcs l)) (h3 : p ∉ aF a) (h4 : ∀ x ∈ aF a, x ∈ G) (hn : n ≤ l.length)
    {m : Nat} (hm : m = l.length - n) (hc' : c' = c - n) (ha : a' = if c = n then a else a.map (·.add n)) :
    Rd (w.setCell ⟨p, 0, none⟩ (.slice a' m c')) a n n 1 (bcs (l.take n)) ∧ (∀ x ∈ aF a, x ∈ G) ∧ InAt (w.setCell ⟨p, 0, none⟩ (.slice a' m c')) p (some (l.drop n)) G ∧
      Kp [p] w (w.setCell ⟨p, 0, none⟩ (.slice a' m c')) := by
  subst hc' hm
  have k : Kp [p] w (w.setCell ⟨p, 0, none⟩ (.slice a' (l.length - n) (c - n))) := (Kp.refl _ _).setCell (.inl (by simp)) _
  have hp : ∀ x ∈ aF a, x ∉ [p] := fun x hx hh => h3 (by simp at hh; subst hh; exact hx)
  have r := (h2.take n n hn (Nat.le_refl _) (by have := h2.le; omega)).kept k hp
  have hr := h2.drop n hn
  simp only [Nat.mul_one] at r hr
  have hsub : ∀ x ∈ aF a', x ∈ aF a := by rw [ha]; exact aF_cut _ _ _
  refine ⟨by rw [← bcs_take]; exact r, h4, ⟨a', c - n, l.drop n, ⟨?_, ?_, fun hh => h3 (hsub _ hh)⟩, fun x hx => h4 x (hsub x hx), by simp⟩, k⟩
  · rw [heap_setCell_same w p 0 _ _ _ h1, List.length_drop]; rfl
  · rw [List.length_drop, ← bcs_drop]
    rw [← ha] at hr
    exact hr.kept k fun x hx => hp x (hsub x hx)

theorem InAt.mark {w : World} {p : Nat} {l : List UInt8} {G : List Nat} (h : InAt w p (some l) G) : InAt (w.setCell ⟨p, 1, none⟩ (.bool false)) p (some l) G ∧ Kp [p] w (w.setCell ⟨p, 1, none⟩ (.bool false)) := by
  obtain ⟨a, c, bs, ⟨h1, h2, h3⟩, h4, h5⟩ := h
  have k : Kp [p] w (w.setCell ⟨p, 1, none⟩ (.bool false)) := (Kp.refl _ _).setCell (.inl (by simp)) _
  refine ⟨⟨a, c, bs, ⟨?_, h2.kept k (fun x hx hh => h3 (by simp at hh; subst hh; exact hx)), h3⟩, h4, h5⟩, k⟩
  rw [heap_setCell_same w p 1 _ _ _ h1]; rfl

theorem newIn_any (a : Option Addr) (c : Nat) (l : List UInt8) (w : World) (h : Rd w a l.length c 1 (bcs l)) (hl : l.length ≤ 140737488351232) :
    Calls Tryd.prog 77 #[.slice a l.length c] w fun e w' => ∃ p G, e = .returned (.pointer (some ⟨p, 0, none⟩)) ∧ InAt w' p (some l) G ∧ (∀ x ∈ p :: G, w.heap.size ≤ x) ∧ (∀ x ∈ p :: G, x < w'.heap.size) ∧ p ∉ G ∧ Kp [] w w' := by
  have H := Lib.hid h
  clear h
  go_enter Tryd.func77, Tryd.ntmps77
  go_wp2_with fail
  refine (clone_any a c l _ H.out hl).mono ?_
  rintro e w1 ⟨a', c', rfl, hown, hF, hk⟩
  have HO := Lib.hid hown
  have HF := Lib.hid hF
  have HK := Lib.hid hk
  clear hown hF hk
  go_wp2
  go_ret
  have hF := HF.out
  have hne : w1.heap.size ∉ aF a' := fun hh => by have := (own_aF HO.out _ hh).2; omega
  have hs := HK.out.size
  refine ⟨w1.heap.size, aF a', rfl, ⟨a', c', l, ⟨heap_alloc_new w1 _, (own_rd HO.out).below ((Kp.refl _ _).alloc _), hne⟩, fun x hx => hx, by simp⟩, ?_, ?_, hne, HK.out.alloc _⟩
  · intro x hx
    simp only [List.mem_cons] at hx
    rcases hx with rfl | hx
    · exact hs
    · exact hF x hx
  · intro x hx
    simp only [List.mem_cons] at hx
    rcases hx with rfl | hx
    · simp
    · have := (own_aF HO.out _ hx).2; simp; omega

set_option maxHeartbeats 400000 in
theorem take_bad (p n : Nat) (st : Option (List UInt8)) (G : List Nat) (w : World) (h : InAt w p st G) (hn : ∀ l, st = some l → l.length < n) :
    Calls Tryd.prog 144 #[.pointer (some ⟨p, 0, none⟩), .int .i64 n] w fun e w' => e = .returned (.slice none 0 0) ∧ InAt w' p none G ∧ Kp [p] w w' := by
  have H := Lib.hid h
  have hf := h.flag
  have hfr := h.free
  cases st with
  | none =>
    have hf : w.cell? ⟨p, 1, none⟩ = some (.bool true) := hf
    clear h
    go_enter Tryd.func144, Tryd.ntmps144
    go_wp2
    go_ret
    exact ⟨rfl, H.out.spoil⟩
  | some l =>
    have hf : w.cell? ⟨p, 1, none⟩ = some (.bool false) := hf
    obtain ⟨a, c, bs, ⟨h1, h2, h3⟩, h4, h5⟩ := h
    obtain rfl := h5 l rfl
    have hc : w.cell? ⟨p, 0, none⟩ = some (.slice a l.length c) := by rw [cell_of_row w p 0 _ _ _ h1]; rfl
    have hlt := hn l rfl
    clear h1 h2 h3 h4 h5 hn
    go_enter Tryd.func144, Tryd.ntmps144
    go_wp2
    go_ret
    exact ⟨rfl, H.out.spoil⟩

set_option maxHeartbeats 400000 in
theorem take_ok (p n : Nat) (l : List UInt8) (G : List Nat) (w : World) (h : InAt w p (some l) G) (hn : n ≤ l.length) :
    Calls Tryd.prog 144 #[.pointer (some ⟨p, 0, none⟩), .int .i64 n] w fun e w' => ∃ a c, e = .returned (.slice a n c) ∧ Rd w' a n c 1 (bcs (l.take n)) ∧ (∀ x ∈ aF a, x ∈ G) ∧ InAt w' p (some (l.drop n)) G ∧ Kp [p] w w' := by
  have H := Lib.hid h
  have hf : w.cell? ⟨p, 1, none⟩ = some (.bool false) := h.good
  have hfr := h.free
  obtain ⟨a, c, bs, ⟨h1, h2, h3⟩, h4, h5⟩ := h
  obtain rfl := h5 l rfl
  have hc : w.cell? ⟨p, 0, none⟩ = some (.slice a l.length c) := by rw [cell_of_row w p 0 _ _ _ h1]; rfl
  have hle := h2.le
  have hmax := h2.max
  unfold maxLen at hmax
  have H1 := Lib.hid h1
  have H2 := Lib.hid h2
  have H3 := Lib.hid h3
  have H4 := Lib.hid h4
  clear h1 h2 h3 h4 h5
  by_cases hcn : c = n
  · obtain rfl : n = l.length := by omega
    subst hcn
    go_enter Tryd.func144, Tryd.ntmps144
    go_wp2
    go_ret
    exact ⟨a, l.length, rfl, take_done (c' := 0) (m := 0) H1.out H2.out H3.out H4.out hn (by simp) (by simp) (by rw [if_pos rfl])⟩
  · go_enter Tryd.func144, Tryd.ntmps144
    go_wp2
    go_ret
    exact ⟨a, n, rfl, take_done H1.out H2.out H3.out H4.out hn rfl rfl (by rw [if_neg hcn])⟩

end Go.Proofs.YtalnkhgonfcabaaDoor

namespace Go.Proofs.YtalnkhgonfcabaaDoor
open Go.RowKit

/-- A number of bytes, the highest first. -/
def num (l : List UInt8) : Nat := l.foldl (fun n c => n * 256 + c.toNat) 0
theorem num_snoc (l : List UInt8) (c : UInt8) : num (l ++ [c]) = num l * 256 + c.toNat := by simp [num]
theorem num_lt (l : List UInt8) : num l < 256 ^ l.length := by
  have h : ∀ (l : List UInt8) (n : Nat), l.foldl (fun n c => n * 256 + c.toNat) n < (n + 1) * 256 ^ l.length := by
    intro l
    induction l with
    | nil => intro n; simp
    | cons c l ih =>
      intro n
      have := ih (n * 256 + c.toNat)
      have hc := c.toNat_lt
      rw [List.foldl_cons, List.length_cons, Nat.pow_succ]
      refine Nat.lt_of_lt_of_le this ?_
      rw [Nat.mul_comm (256 ^ l.length) 256, ← Nat.mul_assoc]
      exact Nat.mul_le_mul_right _ (by omega)
  simpa [num] using h l 0

theorem or_low (x c : Nat) (hx : x < 72057594037927936) (hc : c < 256) : bits .or .u64 ((x : Int) * 256) (c : Int) = ((x * 256 + c : Nat) : Int) := by
  have e : ((x : Int) * 256) = ((x * 256 : Nat) : Int) := by omega
  rw [e, u64_or_nat _ _ (by omega) (by omega)]
  have := Nat.two_pow_add_eq_or_of_lt (i := 8) (by simpa using hc : c < 2 ^ 8) x
  rw [show x * 256 = 2 ^ 8 * x by omega, ← this]

set_option maxHeartbeats 400000 in
theorem num_any (a : Option Addr) (c : Nat) (l : List UInt8) (w : World) (h : Rd w a l.length c 1 (bcs l)) (hl : l.length ≤ 8) :
    Calls Tryd.prog 145 #[.slice a l.length c] w fun e w' => e = .returned (.int .i64 (wrap64 (num l))) ∧ w = w' := by
  have hs : 0 < l.length → ∃ b off, a = some ⟨b, off, none⟩ ∧ b < w.heap.size ∧ ∀ j u, (bcs l)[j]? = some u → w.cell? ⟨b, off + j, none⟩ = some u := fun hp => h.spot (by rw [bcs_length]; exact hp)
  have HS := Lib.hid hs
  have H := Lib.hid h
  clear hs h
  go_enter Tryd.func145, Tryd.ntmps145
  go_wp2
  go_loop [3, 8] (fun n i => ∃ k : Nat, k ≤ l.length ∧ i = .int .i64 k ∧ n = .int .u64 (num (l.take k))) (fun _ i => l.length - (intOf i).toNat)
  case atStart => exact ⟨0, by omega, rfl, rfl⟩
  case round =>
    obtain ⟨k, hk, rfl, rfl⟩ := hrel
    by_cases hlt : k < l.length
    · obtain ⟨b, off, rfl, hb, hcs⟩ := HS.out (by omega)
      have hc : w.cell? ⟨b, off + k, none⟩ = some (bcell l[k]) := hcs k _ (by simp [bcs, hlt])
      unfold bcell at hc
      have hb1 := num_lt (l.take k)
      have hpow : 256 ^ (l.take k).length ≤ 256 ^ 7 := Nat.pow_le_pow_right (by omega) (by simp; omega)
      have hb2 : num (l.take k) < 72057594037927936 := by have : (256 : Nat) ^ 7 = 72057594037927936 := by decide
                                                          omega
      have hor := or_low (num (l.take k)) l[k].toNat hb2 l[k].toNat_lt
      have hsn : num (l.take (k + 1)) = num (l.take k) * 256 + l[k].toNat := by rw [List.take_succ_eq_append_getElem hlt, num_snoc]
      have HN := Lib.hid hsn
      have hbc := l[k].toNat_lt
      clear hsn hpow hb1 hcs
      go_wp2
      go_round
      case rel => exact ⟨k + 1, by omega, by go_num, by rw [HN.out]; exact congrArg (Value.int .u64) (by omega)⟩
      case measure => simp [intOf]; omega
    · obtain rfl : k = l.length := by omega
      go_wp2
      go_ret
      exact ⟨rfl, rfl⟩

/-! ### What a reader tells, and what is left -/
abbrev RdSt := Option (List UInt8)
def rTake (n : Nat) : RdSt → Option (List UInt8 × List UInt8)
  | some l => if n ≤ l.length then some (l.take n, l.drop n) else none
  | none => none
def rInt (s : RdSt) : Int × RdSt :=
  match rTake 8 s with
  | some (l, r) => (wrap64 (num l), some r)
  | none => (0, none)
def rCount (least most : Int) (s : RdSt) : Int × RdSt :=
  match rInt s with
  | (n, some r) => if n < least ∨ most < n then (0, none) else (n, some r)
  | (_, none) => (0, none)
/-- How many, each of so many bytes. -/
def rMany (most : Int) (size : Nat) (s : RdSt) : Nat × RdSt :=
  match rTake 4 s with
  | some (l, r) => if most < num l ∨ r.length / size < num l then (0, none) else (num l, some r)
  | none => (0, none)

theorem rTake_bad {n : Nat} {s : RdSt} (h : rTake n s = none) : ∀ l, s = some l → l.length < n := by
  rintro l rfl
  refine Nat.lt_of_not_le fun hh => ?_
  simp [rTake, hh] at h
theorem rTake_good {n : Nat} {s : RdSt} {l r : List UInt8} (h : rTake n s = some (l, r)) : ∃ b, s = some b ∧ n ≤ b.length ∧ l = b.take n ∧ r = b.drop n := by
  cases s with
  | none => cases h
  | some b =>
    by_cases hh : n ≤ b.length
    · simp [rTake, hh] at h
      exact ⟨b, rfl, hh, h.1.symm, h.2.symm⟩
    · simp [rTake, hh] at h

/-- In.Int -/
theorem int_any (p : Nat) (s : RdSt) (G : List Nat) (w : World) (h : InAt w p s G) :
    Calls Tryd.prog 122 #[.pointer (some ⟨p, 0, none⟩)] w fun e w' => e = .returned (.int .i64 (rInt s).1) ∧ InAt w' p (rInt s).2 G ∧ Kp [p] w w' := by
  have H := Lib.hid h
  clear h
  cases ht : rTake 8 s with
  | none =>
    have hr : rInt s = (0, none) := by simp [rInt, ht]
    have HR := Lib.hid hr
    have HB := Lib.hid (rTake_bad ht)
    clear hr ht
    go_enter Tryd.func122, Tryd.ntmps122
    go_wp2_with fail
    refine (take_bad p 8 s G _ H.out HB.out).mono ?_
    rintro e w1 ⟨rfl, h1, k1⟩
    have hf := h1.bad
    have H1 := Lib.hid h1
    have K1 := Lib.hid k1
    clear h1 k1
    go_wp2
    go_ret
    rw [HR.out]
    exact ⟨rfl, H1.out, K1.out⟩
  | some x =>
    obtain ⟨l, r⟩ := x
    obtain ⟨b, rfl, hb, rfl, rfl⟩ := rTake_good ht
    have hr : rInt (some b) = (wrap64 (num (b.take 8)), some (b.drop 8)) := by simp [rInt, ht]
    have HR := Lib.hid hr
    clear hr ht
    go_enter Tryd.func122, Tryd.ntmps122
    go_wp2_with fail
    refine (take_ok p 8 b G _ H.out hb).mono ?_
    rintro e w1 ⟨a, c, rfl, hrd, hG, h1, k1⟩
    have hf := h1.good
    have hlen : (b.take 8).length = 8 := by simp; omega
    have H1 := Lib.hid h1
    have K1 := Lib.hid k1
    have HRD := Lib.hid hrd
    have HL := Lib.hid hlen
    clear h1 k1 hrd hG hlen
    go_wp2_with fail
    have hc := num_any a c (b.take 8) w1 (by rw [HL.out]; exact HRD.out) (by rw [HL.out]; omega)
    rw [HL.out] at hc
    refine hc.mono ?_
    rintro e w2 ⟨rfl, rfl⟩
    go_wp2
    go_ret
    rw [HR.out]
    exact ⟨rfl, H1.out, K1.out⟩

/-- In.Count -/
theorem count_any (p : Nat) (least most : Int) (s : RdSt) (G : List Nat) (w : World) (h : InAt w p s G) :
    Calls Tryd.prog 78 #[.pointer (some ⟨p, 0, none⟩), .int .i64 least, .int .i64 most] w fun e w' => e = .returned (.int .i64 (rCount least most s).1) ∧ InAt w' p (rCount least most s).2 G ∧ Kp [p] w w' := by
  have H := Lib.hid h
  clear h
  cases hr : rInt s with
  | mk n r =>
  cases r with
  | none =>
    have hc : rCount least most s = (0, none) := by simp [rCount, hr]
    have HR := Lib.hid hr
    have HC := Lib.hid hc
    clear hr hc
    go_enter Tryd.func78, Tryd.ntmps78
    go_wp2_with fail
    refine (int_any p s G _ H.out).mono ?_
    rw [HR.out]
    rintro e w1 ⟨rfl, h1, k1⟩
    have hf := h1.bad
    have hfr := h1.free
    have H1 := Lib.hid h1
    have K1 := Lib.hid k1
    clear h1 k1
    go_wp2
    go_ret
    rw [HC.out]
    exact ⟨rfl, H1.out.spoil.1, K1.out.trans H1.out.spoil.2 (by simp)⟩
  | some r =>
    have HR := Lib.hid hr
    have hv : rCount least most s = if n < least ∨ most < n then (0, none) else (n, some r) := by simp [rCount, hr]
    clear hr
    by_cases hb : n < least ∨ most < n
    · have hc : rCount least most s = (0, none) := by rw [hv, if_pos hb]
      have HC := Lib.hid hc
      clear hc hv
      by_cases hb1 : n < least
      all_goals
        go_enter Tryd.func78, Tryd.ntmps78
        go_wp2_with fail
        refine (int_any p s G _ H.out).mono ?_
        rw [HR.out]
        rintro e w1 ⟨rfl, h1, k1⟩
        have hf := h1.good
        have hfr := h1.free
        have H1 := Lib.hid h1
        have K1 := Lib.hid k1
        clear h1 k1
        go_wp2
        go_ret
        rw [HC.out]
        exact ⟨rfl, H1.out.spoil.1, K1.out.trans H1.out.spoil.2 (by simp)⟩
    · have hc : rCount least most s = (n, some r) := by rw [hv, if_neg hb]
      have HC := Lib.hid hc
      have hb1 : least ≤ n := by omega
      have hb2 : n ≤ most := by omega
      clear hc hv hb
      go_enter Tryd.func78, Tryd.ntmps78
      go_wp2_with fail
      refine (int_any p s G _ H.out).mono ?_
      rw [HR.out]
      rintro e w1 ⟨rfl, h1, k1⟩
      have hf := h1.good
      have hfr := h1.free
      have H1 := Lib.hid h1
      have K1 := Lib.hid k1
      clear h1 k1
      go_wp2
      go_ret
      rw [HC.out]
      exact ⟨rfl, H1.out, K1.out⟩

theorem InAt.data {w : World} {p : Nat} {l : List UInt8} {G : List Nat} (h : InAt w p (some l) G) : ∃ a c, w.cell? ⟨p, 0, none⟩ = some (.slice a l.length c) ∧ l.length ≤ 9223372036854775807 := by
  obtain ⟨a, c, bs, ⟨h1, h2, _⟩, _, h5⟩ := h
  obtain rfl := h5 l rfl
  exact ⟨a, c, by rw [cell_of_row w p 0 _ _ _ h1]; rfl, by have := h2.le; have := h2.max; unfold maxLen at this; omega⟩

theorem num4 (b : List UInt8) : num (b.take 4) < 4294967296 := by
  have h := num_lt (b.take 4)
  have : 256 ^ (b.take 4).length ≤ 256 ^ 4 := Nat.pow_le_pow_right (by omega) (by simp; omega)
  have h4 : (256 : Nat) ^ 4 = 4294967296 := by decide
  omega

/-- In.count -/
theorem many_any (p : Nat) (most : Int) (size : Nat) (s : RdSt) (G : List Nat) (w : World) (h : InAt w p s G) (hs : 1 ≤ size) (hs1 : size ≤ 32) :
    Calls Tryd.prog 123 #[.pointer (some ⟨p, 0, none⟩), .int .i64 most, .int .i64 size] w fun e w' => e = .returned (.int .i64 (rMany most size s).1) ∧ InAt w' p (rMany most size s).2 G ∧ Kp [p] w w' := by
  have H := Lib.hid h
  clear h
  cases ht : rTake 4 s with
  | none =>
    have hr : rMany most size s = (0, none) := by simp [rMany, ht]
    have HR := Lib.hid hr
    have HB := Lib.hid (rTake_bad ht)
    clear hr ht
    go_enter Tryd.func123, Tryd.ntmps123
    go_wp2_with fail
    refine (take_bad p 4 s G _ H.out HB.out).mono ?_
    rintro e w1 ⟨rfl, h1, k1⟩
    have hf := h1.bad
    have H1 := Lib.hid h1
    have K1 := Lib.hid k1
    clear h1 k1
    go_wp2
    go_ret
    rw [HR.out]
    exact ⟨rfl, H1.out, K1.out⟩
  | some x =>
    obtain ⟨l, r⟩ := x
    obtain ⟨b, rfl, hb, rfl, rfl⟩ := rTake_good ht
    have hv : rMany most size (some b) = if most < (num (b.take 4) : Int) ∨ (b.drop 4).length / size < num (b.take 4) then (0, none) else ((num (b.take 4)), some (b.drop 4)) := by simp [rMany, ht]
    have hlen : (b.take 4).length = 4 := by simp; omega
    have hlr : (b.drop 4).length = b.length - 4 := by simp
    have hn := num4 b
    obtain ⟨n, hnn⟩ : ∃ n, n = num (b.take 4) := ⟨_, rfl⟩
    obtain ⟨r, hrr⟩ : ∃ r, r = b.drop 4 := ⟨_, rfl⟩
    rw [← hnn] at hn hv
    rw [← hrr] at hv hlr
    have hw : wrap64 (n : Int) = n := IntWalk.wrap64_in _ ⟨by omega, by omega⟩
    have HW := Lib.hid hw
    have HN := Lib.hid hnn
    have HRR := Lib.hid hrr
    have HL := Lib.hid hlen
    clear hnn hrr hlen hlr ht hw
    have e1 : ((r.length : Int) / (size : Int)) = ((r.length / size : Nat) : Int) := by simp
    have E1 := Lib.hid e1
    clear e1
    by_cases hA : most < (n : Int)
    · have hc : rMany most size (some b) = (0, none) := by rw [hv, if_pos (.inl hA)]
      have HC := Lib.hid hc
      clear hc hv
      go_enter Tryd.func123, Tryd.ntmps123
      go_wp2_with fail
      refine (take_ok p 4 b G _ H.out hb).mono ?_
      rintro e w1 ⟨a, c, rfl, hrd, hG, h1, k1⟩
      have hf := h1.good
      have hfr := h1.free
      have H1 := Lib.hid h1
      have K1 := Lib.hid k1
      have HRD := Lib.hid hrd
      clear h1 k1 hrd hG
      go_wp2_with fail
      have hcall := num_any a c (b.take 4) w1 (by rw [HL.out]; exact HRD.out) (by rw [HL.out]; omega)
      rw [HL.out, ← HN.out, HW.out] at hcall
      refine hcall.mono ?_
      rintro e w2 ⟨rfl, rfl⟩
      clear hcall
      go_wp2
      go_ret
      rw [HC.out]
      exact ⟨rfl, H1.out.spoil.1, K1.out.trans H1.out.spoil.2 (by simp)⟩
    · by_cases hB : r.length / size < n
      · have hc : rMany most size (some b) = (0, none) := by rw [hv, if_pos (.inr hB)]
        have HC := Lib.hid hc
        clear hc hv
        have hB1 : decide ((r.length : Int) / (size : Int) < (n : Int)) = true := decide_eq_true (by rw [E1.out]; omega)
        have hs0 : ((size : Int) == 0) = false := by rw [beq_eq_false_iff_ne]; omega
        go_enter Tryd.func123, Tryd.ntmps123
        go_wp2_with fail
        refine (take_ok p 4 b G _ H.out hb).mono ?_
        rintro e w1 ⟨a, c, rfl, hrd, hG, h1, k1⟩
        have hf := h1.good
        have hfr := h1.free
        obtain ⟨a2, c2, hd, hlr⟩ := h1.data
        rw [← HRR.out] at hd hlr
        have hdl : r.length / size ≤ r.length := Nat.div_le_self _ _
        have hw2 : wrap64 ((r.length : Int) / (size : Int)) = (r.length : Int) / (size : Int) := by rw [E1.out]; revert hdl; generalize r.length / size = q; intro hdl; exact IntWalk.wrap64_in _ ⟨by omega, by omega⟩
        clear hdl
        have H1 := Lib.hid h1
        have K1 := Lib.hid k1
        have HRD := Lib.hid hrd
        clear h1 k1 hrd hG
        go_wp2_with fail
        have hcall := num_any a c (b.take 4) w1 (by rw [HL.out]; exact HRD.out) (by rw [HL.out]; omega)
        rw [HL.out, ← HN.out, HW.out] at hcall
        refine hcall.mono ?_
        rintro e w2 ⟨rfl, rfl⟩
        clear hcall
        go_wp2
        go_ret
        rw [HC.out]
        exact ⟨rfl, H1.out.spoil.1, K1.out.trans H1.out.spoil.2 (by simp)⟩
      · have hc : rMany most size (some b) = (n, some r) := by rw [hv, if_neg (by omega)]
        have HC := Lib.hid hc
        clear hc hv
        have hB1 : decide ((r.length : Int) / (size : Int) < (n : Int)) = false := decide_eq_false (by rw [E1.out]; omega)
        have hs0 : ((size : Int) == 0) = false := by rw [beq_eq_false_iff_ne]; omega
        go_enter Tryd.func123, Tryd.ntmps123
        go_wp2_with fail
        refine (take_ok p 4 b G _ H.out hb).mono ?_
        rintro e w1 ⟨a, c, rfl, hrd, hG, h1, k1⟩
        have hf := h1.good
        have hfr := h1.free
        obtain ⟨a2, c2, hd, hlr⟩ := h1.data
        rw [← HRR.out] at hd hlr
        have hdl : r.length / size ≤ r.length := Nat.div_le_self _ _
        have hw2 : wrap64 ((r.length : Int) / (size : Int)) = (r.length : Int) / (size : Int) := by rw [E1.out]; revert hdl; generalize r.length / size = q; intro hdl; exact IntWalk.wrap64_in _ ⟨by omega, by omega⟩
        clear hdl
        have H1 := Lib.hid h1
        have K1 := Lib.hid k1
        have HRD := Lib.hid hrd
        clear h1 k1 hrd hG
        go_wp2_with fail
        have hcall := num_any a c (b.take 4) w1 (by rw [HL.out]; exact HRD.out) (by rw [HL.out]; omega)
        rw [HL.out, ← HN.out, HW.out] at hcall
        refine hcall.mono ?_
        rintro e w2 ⟨rfl, rfl⟩
        clear hcall
        go_wp2
        go_ret
        rw [HC.out]
        exact ⟨rfl, by rw [HRR.out]; exact H1.out, K1.out⟩

end Go.Proofs.YtalnkhgonfcabaaDoor

namespace Go.Proofs.YtalnkhgonfcabaaDoor
open Go.RowKit

def rBytes (most : Int) (s : RdSt) : List UInt8 × RdSt :=
  match rMany most 1 s with
  | (n, some r) => (r.take n, some (r.drop n))
  | (_, none) => ([], none)
def rHash (s : RdSt) : Hsh × RdSt :=
  match rTake 32 s with
  | some (l, r) => (toH l, some r)
  | none => (zeroH, none)
def rHs : Nat → RdSt → List Hsh × RdSt
  | 0, s => ([], s)
  | n + 1, s => ((rHash s).1 :: (rHs n (rHash s).2).1, (rHs n (rHash s).2).2)
def rHashes (most : Int) (s : RdSt) : List Hsh × RdSt := rHs (rMany most 32 s).1 (rMany most 32 s).2
def rBool (s : RdSt) : Bool × RdSt :=
  match rTake 1 s with
  | some (l, r) => if 1 < num l then (false, none) else (num l == 1, some r)
  | none => (false, none)

theorem rMany_le {most : Int} {size : Nat} {s : RdSt} {n : Nat} {r : List UInt8} (h : rMany most size s = (n, some r)) : n ≤ r.length / size ∧ n < 4294967296 := by
  cases ht : rTake 4 s with
  | none => simp [rMany, ht] at h
  | some x =>
    obtain ⟨l, q⟩ := x
    obtain ⟨b, rfl, hb, rfl, rfl⟩ := rTake_good ht
    simp only [rMany, ht] at h
    split at h
    · simp at h
    · simp only [Prod.mk.injEq, Option.some.injEq] at h
      obtain ⟨rfl, rfl⟩ := h
      exact ⟨by omega, num4 b⟩
theorem rMany_zero {most : Int} {size : Nat} {s : RdSt} {n : Nat} (h : rMany most size s = (n, none)) : n = 0 := by
  unfold rMany at h
  split at h
  · split at h <;> simp at h; omega
  · simp at h; omega




def isDone : RdSt → Bool
  | some [] => true
  | _ => false

theorem done_any (p : Nat) (s : RdSt) (G : List Nat) (w : World) (h : InAt w p s G) :
    Calls Tryd.prog 80 #[.pointer (some ⟨p, 0, none⟩)] w fun e w' => e = .returned (.bool (isDone s)) ∧ w = w' := by
  cases s with
  | none =>
    have hf := h.bad
    clear h
    go_enter Tryd.func80, Tryd.ntmps80
    go_wp2
    go_ret
    exact ⟨rfl, rfl⟩
  | some l =>
    have hf := h.good
    obtain ⟨a, c, hd, hl⟩ := h.data
    clear h
    cases l with
    | nil =>
      go_enter Tryd.func80, Tryd.ntmps80
      go_wp2
      go_ret
      exact ⟨rfl, rfl⟩
    | cons x l =>
      obtain ⟨n, hn⟩ : ∃ n, n = (x :: l).length := ⟨_, rfl⟩
      have hpos : 0 < n := by rw [hn]; simp
      rw [← hn] at hd hl
      clear hn
      have h0 : ((n : Int) == 0) = false := by rw [beq_eq_false_iff_ne]; omega
      go_enter Tryd.func80, Tryd.ntmps80
      go_wp2
      go_ret
      exact ⟨rfl, rfl⟩


end Go.Proofs.YtalnkhgonfcabaaDoor

namespace Go.Proofs.YtalnkhgonfcabaaDoor
open Go.RowKit


set_option maxRecDepth 100000 in
theorem hash_any (p : Nat) (s : RdSt) (G : List Nat) (w : World) (h : InAt w p s G) (hGlt : ∀ x ∈ G, x < w.heap.size) :
    Calls Tryd.prog 124 #[.pointer (some ⟨p, 0, none⟩)] w fun e w' => e = .returned (hv (rHash s).1) ∧ InAt w' p (rHash s).2 G ∧ Kp [p] w w' := by
  have H := Lib.hid h
  have HG := Lib.hid hGlt
  clear h hGlt
  cases ht : rTake 32 s with
  | none =>
    have hr : rHash s = (zeroH, none) := by simp [rHash, ht]
    have HB := Lib.hid (rTake_bad ht)
    rw [hr]
    clear hr ht
    go_enter Tryd.func124, Tryd.ntmps124
    go_wp2
    rw [zeroH_lit]
    go_region_law (first | (go_simp; refine (take_bad p 32 s G _ ((H.out.kept (Kp.refl [] w) (by simp) (by simp)).kept (((Kp.refl [] w).alloc _).alloc _).drew (by simp) (by simp)) HB.out).mono ?_; rintro e w1 ⟨rfl, h1, k1⟩; have hb2 := (k1.block (w.heap.size + 1) (by simp) (by have := H.out.lt; simp; omega)).trans (heap_alloc2_new w _ _)) | (refine step_copy_rd (dT := 39) rfl rfl Tryd.underlying39 (by kernel_rfl) rfl rfl (nil_rd _ 1) hb2 (by simp) (by simp) ?_; intro w5 h5 k5 s5))
    have hb1 : w1.heap[w.heap.size]? = some (.cells (hvA zeroH) 33 (0, 0)) := (k1.block w.heap.size (by simp; omega) (by have := H.out.lt; simp; omega)).trans (heap_alloc2_old w _ _)
    have hb1 := (k5.block _ (lt_of_block hb1) (by simp)).trans hb1
    have h5 : w5.heap[w.heap.size + 1]? = some (.cells (hvA zeroH) 33 (0, 0)) := by rw [h5]; simp [splice_none]
    have h1 := h1.kept k5 (by have := H.out.lt; simp; omega) (by intro x hx; have := HG.out x hx; simp; omega)
    have K1 := Lib.hid ((((Kp.refl [p] w).alloc _).alloc _).drew.trans k1 (by simp) |>.trans k5 (by simp; omega))
    clear k1 k5 hb2
    go_wp2_with (first | (refine wpList_get Tryd.thash rfl rfl h5 (hvA_size _) rfl ?_) | (refine wpList_set Tryd.thash rfl rfl hb1 (hvA_size _) (hvA_size zeroH) (hvA_one _) rfl rfl ?_; intro w6 h6 k6 s6))
    refine ret_block Tryd.thash rfl h6 (hvA_size _) rfl rfl ⟨rfl, ?_, ?_⟩
    · exact h1.kept k6 (by have := H.out.lt; simp; omega) (by intro x hx; have := HG.out x hx; simp; omega)
    · exact K1.out.trans k6 (by simp)
  | some x =>
    obtain ⟨l, r⟩ := x
    obtain ⟨b, rfl, hb, rfl, rfl⟩ := rTake_good ht
    have hr : rHash (some b) = (toH (b.take 32), some (b.drop 32)) := by simp [rHash, ht]
    have hlen : (b.take 32).length = 32 := by simp; omega
    rw [hr]
    have HL := Lib.hid hlen
    clear hr ht hlen
    go_enter Tryd.func124, Tryd.ntmps124
    go_wp2
    rw [zeroH_lit]
    go_region_law (first | (go_simp; refine (take_ok p 32 b G _ ((H.out.kept (Kp.refl [] w) (by simp) (by simp)).kept (((Kp.refl [] w).alloc _).alloc _).drew (by simp) (by simp)) hb).mono ?_; rintro e w1 ⟨a, c, rfl, hrd, hG, h1, k1⟩; have hb2 := (k1.block (w.heap.size + 1) (by simp) (by have := H.out.lt; simp; omega)).trans (heap_alloc2_new w _ _)) | (refine step_copy_rd (dT := 39) rfl rfl Tryd.underlying39 (by kernel_rfl) rfl rfl hrd hb2 (by simp [hvA_size]) (bcs_one _) ?_; intro w5 h5 k5 s5))
    have hb1 : w1.heap[w.heap.size]? = some (.cells (hvA zeroH) 33 (0, 0)) := (k1.block w.heap.size (by simp; omega) (by have := H.out.lt; simp; omega)).trans (heap_alloc2_old w _ _)
    have hb1 := (k5.block _ (lt_of_block hb1) (by simp)).trans hb1
    have h5 : w5.heap[w.heap.size + 1]? = some (.cells (hvA (toH (b.take 32))) 33 (0, 0)) := by
      rw [h5, Nat.min_self, List.take_of_length_le (by rw [bcs_length, HL.out]; exact Nat.le_refl _), splice_full _ _ (by rw [bcs_length, HL.out]; simp [hvA_size])]
      unfold hvA hcs; rw [toH_of _ HL.out]
    have h1 := h1.kept k5 (by have := H.out.lt; simp; omega) (by intro x hx; have := HG.out x hx; simp; omega)
    have K1 := Lib.hid ((((Kp.refl [p] w).alloc _).alloc _).drew.trans k1 (by simp) |>.trans k5 (by simp; omega))
    clear k1 k5 hb2 hrd hG
    go_wp2_with (first | (refine wpList_get Tryd.thash rfl rfl h5 (hvA_size _) rfl ?_) | (refine wpList_set Tryd.thash rfl rfl hb1 (hvA_size _) (hvA_size _) (hvA_one _) rfl rfl ?_; intro w6 h6 k6 s6))
    refine ret_block Tryd.thash rfl h6 (hvA_size _) rfl rfl ⟨rfl, ?_, ?_⟩
    · exact h1.kept k6 (by have := H.out.lt; simp; omega) (by intro x hx; have := HG.out x hx; simp; omega)
    · exact K1.out.trans k6 (by simp)

end Go.Proofs.YtalnkhgonfcabaaDoor

namespace Go.Proofs.YtalnkhgonfcabaaDoor
open Go.RowKit

theorem rHs_succ (n : Nat) (s : RdSt) : rHs (n + 1) s = ((rHash s).1 :: (rHs n (rHash s).2).1, (rHs n (rHash s).2).2) := rfl

set_option maxHeartbeats 400000 in
theorem hashes_any (p : Nat) (most : Int) (s : RdSt) (G : List Nat) (w : World) (h : InAt w p s G) (hp : p ∉ G) (hGlt : ∀ x ∈ G, x < w.heap.size) :
    Calls Tryd.prog 79 #[.pointer (some ⟨p, 0, none⟩), .int .i64 most] w fun e w' => ∃ a c, e = .returned (.slice a (rHashes most s).1.length c) ∧ w'.ownsRow 0 33 32 (.slice a (rHashes most s).1.length c) (rHashes most s).1.length (hsc (rHashes most s).1) ∧
      (∀ x ∈ aF a, w.heap.size ≤ x) ∧ InAt w' p (rHashes most s).2 G ∧ Kp [p] w w' := by
  obtain ⟨i0, T⟩ := Tryd.thashes
  have H := Lib.hid h
  have HG := Lib.hid hGlt
  have HP := Lib.hid hp
  clear h hGlt hp
  cases hm : rMany most 32 s with
  | mk n r =>
  have hnb : n < 4294967296 := by
    cases r with
    | none => rw [rMany_zero hm]; omega
    | some r => exact (rMany_le hm).2
  have hr : rHashes most s = rHs n r := by simp [rHashes, hm]
  rw [hr]
  have HM := Lib.hid hm
  clear hr hm
  go_enter Tryd.func79, Tryd.ntmps79
  go_wp2_with fail
  refine (many_any p most 32 s G _ H.out (by decide) (by decide)).mono ?_
  rw [HM.out]
  rintro e w1 ⟨rfl, h1, k1⟩
  have H1 := Lib.hid h1
  have K1 := Lib.hid k1
  clear h1 k1
  go_wp2
  go_loopw [5, 9] (fun v i wr => ∃ (k : Nat) (acc : List Hsh) (st : RdSt) (a : Option Addr) (c : Nat), k ≤ n ∧ i = .int .i64 k ∧ v = .slice a acc.length c ∧ acc.length = k ∧ wr.ownsRow 0 33 32 (.slice a acc.length c) acc.length (hsc acc) ∧ (∀ x ∈ aF a, w.heap.size ≤ x) ∧ InAt wr p st G ∧ Kp [p] w wr ∧
      Hid (rHs n r = (acc ++ (rHs (n - k) st).1, (rHs (n - k) st).2))) (fun _ i _ => n - (intOf i).toNat)
  case atStart => exact ⟨0, [], r, none, 0, by omega, rfl, rfl, rfl, World.ownsRow_nil _ _ _ _, by simp [aF], H1.out, K1.out, by simp [Hid]⟩
  case round =>
    obtain ⟨k, acc, st, a, c, hk, rfl, rfl, hlen, hown, hF, hin, hkp, hspec⟩ := hrel
    have HO := Lib.hid hown
    have HF := Lib.hid hF
    have HI := Lib.hid hin
    have HK := Lib.hid hkp
    have HL := Lib.hid hlen
    clear hown hF hin hkp hlen
    by_cases hlt : k < n
    · go_wp2_with fail
      refine (hash_any p st G _ HI.out (by intro x hx; have := HG.out x hx; have := HK.out.size; omega)).mono ?_
      rintro e w2 ⟨rfl, h2, k2⟩
      have H2 := Lib.hid h2
      have K2 := Lib.hid k2
      clear h2 k2
      obtain ⟨hh, hhd⟩ : ∃ hh, hh = (rHash st).1 := ⟨_, rfl⟩
      rw [← hhd]
      have HH := Lib.hid hhd
      clear hhd
      have hpF : ∀ x ∈ aF a, x ∉ [p] := fun x hx hh => by
        have := HF.out x hx
        have := H.out.lt
        simp at hh; omega
      have HO2 := Lib.hid (own_kept HO.out K2.out (by rw [rowF_slice]; exact hpF))
      clear hpF
      go_wp2_with (first | (refine wpList_lit T rfl rfl [hv hh] rfl (by simp [Act.eval]) (hvs_size [hh]) (by simp) ?_) | (at_builtin; refine wpList_append_rd T rfl rfl rfl (HO2.out.alloc _) rfl (rd_alloc (m := 1) (by rw [flatV_one]; simp [hcs_length]) (by simp [maxLen])) (by rw [flatV_one]; exact hcs_one hh) (by have := HL.out; omega) (by have := HL.out; simp [maxLen]; omega) ?_))
      intro a' c' w3 hown hgrow hF3
      rw [flatV_one, ← hsc_snoc] at hown
      have HO3 := Lib.hid hown
      have HG3 := Lib.hid hgrow
      have HF3 := Lib.hid hF3
      clear hown hgrow hF3
      go_wp2
      go_roundw
      case rel =>
        have k3 : Kp (aF a) w2 w3 := ((Kp.refl (aF a) w2).alloc _).grown HG3.out fun k hk => by left; cases a <;> simp_all [Value.ownBlock, aF]
        have hpw := H.out.lt
        have hne : p ∉ aF a := fun hh => by have := HF.out p hh; omega
        have hs2 := HK.out.size
        have hs3 := K2.out.size
        refine ⟨k + 1, acc ++ [hh], (rHash st).2, a', c', by omega, by go_num, by simp, by simp; exact HL.out, by simpa using HO3.out, ?_, H2.out.kept k3 hne (fun x hx hx2 => by have := HF.out x hx2; have := HG.out x hx; omega), ?_, ?_⟩
        · intro x hx
          rcases HF3.out x hx with h | h
          · exact HF.out x h
          · omega
        · exact (HK.out.trans K2.out (by simp)).trans k3 (fun x hx hlt => by have := HF.out x hx; omega)
        · show _ = _
          rw [hspec.out, show n - k = (n - (k + 1)) + 1 by omega, rHs_succ, HH.out]
          simp
      case measure => simp [intOf]; omega
    · obtain rfl : k = n := by omega
      go_wp2
      go_ret
      have hsp := hspec.out
      simp only [Nat.sub_self, rHs, List.append_nil] at hsp
      rw [hsp]
      exact ⟨a, c, rfl, HO.out, HF.out, HI.out, HK.out⟩

end Go.Proofs.YtalnkhgonfcabaaDoor

namespace Go.Proofs.YtalnkhgonfcabaaDoor
open Go.RowKit

theorem be_length (s : Nat) (n : Int) : (be s n).length = s := beTo_length s n s
theorem OutAt.cell {w : World} {p : Nat} {bs : List UInt8} {F : List Nat} (h : OutAt w p bs F) : ∃ a c, OutIs w p (.slice a bs.length c) bs ∧ F = p :: aF a := by
  obtain ⟨v, hv, rfl⟩ := h
  rcases hv.2.2 with ⟨rfl, h0⟩ | ⟨g, cap, cur, rfl, _⟩
  · exact ⟨none, 0, by rw [h0]; exact hv, by simp [rowF, aF]⟩
  · exact ⟨_, _, hv, by rw [rowF_slice]⟩

/-- What an append leaves of an Out. -/
theorem out_put {w W w1 : World} {p : Nat} {a a' : Option Addr} {c c' : Nat} {bs new : List UInt8} {n : Nat} (h : OutIs w p (.slice a bs.length c) bs) (hW : Kp [] w W) (hn : n = bs.length + new.length)
    (hown : w1.ownsRow 0 5 1 (.slice a' n c') n (bcs bs ++ bcs new)) (hgrow : W.grownBy w1 (Value.ownBlock (.slice a bs.length c))) (hg : ∀ x ∈ aF a', x ∈ aF a ∨ x = W.heap.size) :
    OutAt (w1.setCell ⟨p, 0, none⟩ (.slice a' n c')) p (bs ++ new) (p :: aF a') ∧ Adv (p :: aF a) (p :: aF a') w (w1.setCell ⟨p, 0, none⟩ (.slice a' n c')) := by
  subst hn
  have hb := out_keep h hW hgrow
  have hne := own_ne hb hown (by decide)
  have hpw := lt_of_block h.1
  refine ⟨⟨_, ⟨one_setCell hb, ?_⟩, by rw [rowF_slice]⟩, ((hW.mono (by simp)).grown hgrow ?_).setCell (.inl (by simp)) _, ?_⟩
  · have := ownsRow_setCell_other hown (a := ⟨p, 0, none⟩) hne (.slice a' (bs.length + new.length) c')
    rw [List.length_append, bcs_app]
    exact this
  · intro k hk
    cases a with
    | none => simp [Value.ownBlock] at hk
    | some b => simp [Value.ownBlock] at hk; simp [aF, hk]
  · intro x hx
    simp only [List.mem_cons] at hx
    rcases hx with rfl | hx
    · simp
    · rcases hg x hx with h1 | h1
      · left; simp [h1]
      · right; rw [h1]; exact hW.size

theorem oint_any (p : Nat) (bs : List UInt8) (F : List Nat) (n : Int) (w : World) (h : OutAt w p bs F) (hl : bs.length ≤ 4294967296) :
    Calls Tryd.prog 73 #[.pointer (some ⟨p, 0, none⟩), .int .i64 n] w fun e w' => e = .returned (.pointer (some ⟨p, 0, none⟩)) ∧ ∃ F', OutAt w' p (bs ++ be 8 n) F' ∧ Adv F F' w w' := by
  go_enter Tryd.func73, Tryd.ntmps73
  go_wp2_with fail
  refine (number_any p bs F n 8 _ h hl (by decide)).mono ?_
  rintro e w1 ⟨rfl, F', h1, k1⟩
  have H := Lib.hid h1
  have K := Lib.hid k1
  clear h1 k1
  go_wp2
  go_ret
  exact ⟨rfl, F', H.out, K.out⟩

theorem ocount_any (p : Nat) (bs : List UInt8) (F : List Nat) (n : Int) (w : World) (h : OutAt w p bs F) (hl : bs.length ≤ 4294967296) :
    Calls Tryd.prog 118 #[.pointer (some ⟨p, 0, none⟩), .int .i64 n] w fun e w' => e = .returned (.tuple #[]) ∧ ∃ F', OutAt w' p (bs ++ be 4 n) F' ∧ Adv F F' w w' := by
  go_enter Tryd.func118, Tryd.ntmps118
  go_wp2_with fail
  refine (number_any p bs F n 4 _ h hl (by decide)).mono ?_
  rintro e w1 ⟨rfl, F', h1, k1⟩
  have H := Lib.hid h1
  have K := Lib.hid k1
  clear h1 k1
  go_wp2
  go_end0
  exact ⟨rfl, F', H.out, K.out⟩

theorem oall_any (p : Nat) (bs : List UInt8) (F : List Nat) (w : World) (h : OutAt w p bs F) (hl : bs.length ≤ 4294967296) :
    Calls Tryd.prog 75 #[.pointer (some ⟨p, 0, none⟩)] w fun e w' => ∃ a c, e = .returned (.slice a bs.length c) ∧ w'.ownsRow 0 5 1 (.slice a bs.length c) bs.length (bcs bs) ∧ (∀ x ∈ aF a, w.heap.size ≤ x) ∧ Kp [] w w' := by
  obtain ⟨a, c, hv, rfl⟩ := h.cell
  have hc : w.cell? ⟨p, 0, none⟩ = some (.slice a bs.length c) := cell_of_one hv.1
  have HV := Lib.hid hv
  clear h hv
  go_enter Tryd.func75, Tryd.ntmps75
  go_wp2_with fail
  refine (clone_any a c bs _ (own_rd HV.out.2) (by omega)).mono ?_
  rintro e w1 ⟨a', c', rfl, hown, hF, hk⟩
  have HO := Lib.hid hown
  have HF := Lib.hid hF
  have HK := Lib.hid hk
  clear hown hF hk
  go_wp2
  go_ret
  exact ⟨a', c', rfl, HO.out, HF.out, HK.out⟩

theorem Adv.mem {F F' : List Nat} {w w' : World} (h : Adv F F' w w') {x : Nat} (hx : x ∈ F') (hlt : x < w.heap.size) : x ∈ F := by
  rcases h.gr x hx with h1 | h1
  · exact h1
  · omega


end Go.Proofs.YtalnkhgonfcabaaDoor

namespace Go.Proofs.YtalnkhgonfcabaaDoor
open Go.RowKit

def slB (s : ByteArray) : List UInt8 := s.data.toList
theorem sl_length (s : ByteArray) : (slB s).length = s.size := by simp [slB]

theorem rd_bytesRow (w : World) (s : ByteArray) (cap : Nat) (e : TypeId) (fr : Nat × Nat) (h1 : s.size ≤ cap) (h2 : cap ≤ maxLen) : Rd (w.drew.alloc (.cells (bytesRow s cap) e fr)) (some ⟨w.heap.size, 0, none⟩) s.size cap 1 (bcs (slB s)) := by
  refine ⟨by rw [bcs_length, sl_length]; omega, h1, h2, by simp, fun j u hu => ⟨_, rfl, ?_⟩⟩
  have hb : (w.drew.alloc (.cells (bytesRow s cap) e fr)).heap[w.heap.size]? = some (.cells (bytesRow s cap) e fr) := heap_alloc_new w.drew _
  rw [Addr.add_mid, cell_of_row _ _ _ _ _ _ hb]
  have hj : j < s.size := by have := (List.getElem?_eq_some_iff.1 hu).1; rw [bcs_length, sl_length] at this; exact this
  rw [← hu]
  have hs : s.data.size = s.size := rfl
  simp [bytesRow, bcs, slB, Array.getElem?_append, hs, hj, bcell]



/-- Out.Hash -/
theorem ohash_any (p : Nat) (bs : List UInt8) (F : List Nat) (h : Hsh) (w : World) (ho : OutAt w p bs F) (hl : bs.length ≤ 4294967296) :
    Calls Tryd.prog 119 #[.pointer (some ⟨p, 0, none⟩), hv h] w fun e w' => e = .returned (.pointer (some ⟨p, 0, none⟩)) ∧ ∃ F', OutAt w' p (bs ++ h.1) F' ∧ Adv F F' w w' := by
  obtain ⟨i0, T⟩ := Tryd.tbytes
  obtain ⟨a, c, hv', rfl⟩ := ho.cell
  have hcell : w.cell? ⟨p, 0, none⟩ = some (.slice a bs.length c) := cell_of_one hv'.1
  have hplt := lt_of_block hv'.1
  have hca : ∀ o, (w.alloc o).cell? ⟨p, 0, none⟩ = some (.slice a bs.length c) := fun o => by rw [World.cell?_alloc_past _ _ _ hplt]; exact hcell
  have HV := Lib.hid hv'
  clear ho hv'
  go_enter Tryd.func119, Tryd.ntmps119
  go_wp2
  have hbA : (w.alloc (.cells (hvA h) 33)).drew.heap[w.heap.size]? = some (.cells (hvA h) 33 (0, 0)) := heap_alloc_new w _
  go_region_law ((refine step_append_rd T rfl rfl rfl ((HV.out.2.alloc _).drew) rfl (rd_block (m := 32) hbA (hvA_size h) (by simp [maxLen])) (hvA_one h) (by omega) (by simp [maxLen]; omega) ?_); intro a2 c2 w1 hown hgrow hg; have hb1 := out_keep HV.out ((Kp.refl _ _).alloc _).drew hgrow; have hc1 := cell_of_one hb1; have hf1 := free_of_one hb1; have HO := Lib.hid hown; have HW := Lib.hid hgrow; have HG := Lib.hid hg; clear hown hgrow hg hb1)
  all_goals
    go_wp2
    go_ret
    have P := out_put (new := h.1) HV.out ((Kp.refl _ _).alloc _).drew (by rw [h.2]) HO.out HW.out HG.out
    exact ⟨rfl, _, P.1, P.2⟩

/-- The bytes of hashes, one behind the other. -/
def hb (l : List Hsh) : List UInt8 := l.flatMap (·.1)
theorem hb_length (l : List Hsh) : (hb l).length = l.length * 32 := by
  induction l with
  | nil => rfl
  | cons h l ih => simp only [hb, List.flatMap_cons, List.length_append, h.2, List.length_cons] at *; omega
theorem hb_take_succ (l : List Hsh) (k : Nat) (hk : k < l.length) : hb (l.take (k + 1)) = hb (l.take k) ++ l[k].1 := by
  rw [List.take_succ_eq_append_getElem hk]; unfold hb; rw [List.flatMap_append]; simp

set_option maxHeartbeats 400000 in
/-- Out.Hashes -/
theorem ohashes_any (p : Nat) (bs : List UInt8) (F : List Nat) (a : Option Addr) (c : Nat) (l : List Hsh) (w : World) (ho : OutAt w p bs F) (hl : bs.length ≤ 2147483648) (hr : Rd w a l.length c 32 (hsc l)) (hll : l.length ≤ 16777216) (hF : 0 < l.length → ∀ x ∈ aF a, x ∉ F) (hFw : ∀ x ∈ F, x < w.heap.size) :
    Calls Tryd.prog 74 #[.pointer (some ⟨p, 0, none⟩), .slice a l.length c] w fun e w' => e = .returned (.pointer (some ⟨p, 0, none⟩)) ∧ ∃ F', OutAt w' p (bs ++ (be 4 l.length ++ hb l)) F' ∧ Adv F F' w w' := by
  have HR := Lib.hid hr
  have HF := Lib.hid hF
  have HW := Lib.hid hFw
  clear hr hF hFw
  go_enter Tryd.func74, Tryd.ntmps74
  go_wp2_with fail
  refine (ocount_any p bs F l.length _ ho (by omega)).mono ?_
  rintro e w1 ⟨rfl, F1, h1, k1⟩
  have H1 := Lib.hid h1
  have K1 := Lib.hid k1
  clear h1 k1 ho
  go_wp2
  go_loopw [13] (fun i wr => ∃ (k : Nat) (F' : List Nat), k ≤ l.length ∧ i = .int .i64 k ∧ OutAt wr p (bs ++ be 4 l.length ++ hb (l.take k)) F' ∧ Adv F F' w wr) (fun i _ => l.length - (intOf i).toNat)
  case atStart => exact ⟨0, F1, by omega, rfl, by simpa [hb] using H1.out, K1.out⟩
  case round =>
    obtain ⟨k, F', hk, rfl, hO, hA⟩ := hrel
    by_cases hlt : k < l.length
    · have hrd := HR.out.kept hA.kp (HF.out (by omega))
      obtain ⟨b, off, rfl, hb', hcs⟩ := hrd.spot (by rw [hsc_length]; omega)
      have hra := rd_hash hcs k hlt
      obtain ⟨hh, hhd⟩ : ∃ hh, hh = l[k] := ⟨_, rfl⟩
      rw [← hhd] at hra
      have HH := Lib.hid hhd
      obtain ⟨m, hm⟩ : ∃ m, m = bs ++ be 4 l.length ++ hb (l.take k) := ⟨_, rfl⟩
      rw [← hm] at hO
      have hml : m.length = bs.length + 4 + k * 32 := by rw [hm, List.length_append, List.length_append, be_length, hb_length, List.length_take]; omega
      have hml2 : m.length ≤ 4294967296 := by omega
      have HM := Lib.hid hm
      have HO := Lib.hid hO
      have HA := Lib.hid hA
      have HRA := Lib.hid hra
      clear hrd hcs hra hm hO hA hml hhd
      go_wp2_with (first | (refine wpList_get_mid Tryd.thash rfl rfl HRA.out (hcs_length _) rfl ?_) | (refine wpList_set Tryd.thash rfl rfl (heap_alloc_new wr _) rfl (hvA_size hh) (hvA_one hh) rfl rfl ?_; intro w2 h2 k2 s2) | (refine wpList_get Tryd.thash rfl rfl h2 (hvA_size hh) rfl ?_))
      have kk : Kp [] wr w2 := ⟨k2.os, k2.tape, k2.output, by rw [s2]; simp, fun i hi _ => (k2.block i (by simp; omega) (by simp; omega)).trans (heap_alloc_old wr _ hi)⟩
      have hO2 : OutAt w2 p m F' := by
        obtain ⟨v, hv, rfl⟩ := HO.out
        exact ⟨v, ⟨(kk.block _ (lt_of_block hv.1) (by simp)).trans hv.1, own_kept hv.2 kk (by simp)⟩, rfl⟩
      refine (ohash_any p m F' hh w2 hO2 hml2).mono ?_
      rintro e w3 ⟨rfl, F3, h3, k3⟩
      have H3 := Lib.hid h3
      have K3 := Lib.hid k3
      have KK := Lib.hid kk
      clear h3 k3 kk hO2 h2 k2 s2
      go_wp2
      go_roundw
      case rel =>
        refine ⟨k + 1, F3, by omega, by go_num, by rw [hb_take_succ l k hlt, ← List.append_assoc, ← HM.out, ← HH.out]; exact H3.out, HA.out.trans ⟨(KK.out.mono (by simp)).trans K3.out.kp (fun x hx _ => hx), fun x hx => ?_⟩⟩
        rcases K3.out.gr x hx with h | h
        · exact .inl h
        · right; have := KK.out.size; omega
      case measure => simp [intOf]; omega
    · obtain rfl : k = l.length := by omega
      go_wp2
      go_ret
      exact ⟨rfl, F', by rw [← List.append_assoc]; simpa using hO, hA⟩

end Go.Proofs.YtalnkhgonfcabaaDoor

namespace Go.Proofs.YtalnkhgonfcabaaDoor
open Go.RowKit

theorem out_new (w : World) : OutAt (w.alloc (.cells #[.slice none 0 0] 110)) w.heap.size [] [w.heap.size] :=
  ⟨.slice none 0 0, ⟨heap_alloc_new w _, World.ownsRow_nil _ _ _ _⟩, rfl⟩
theorem OutAt.flt {w : World} {p : Nat} {bs : List UInt8} {F : List Nat} (h : OutAt w p bs F) : ∀ x ∈ F, x < w.heap.size := by
  obtain ⟨v, hv, rfl⟩ := h
  intro x hx
  simp only [List.mem_cons] at hx
  rcases hx with rfl | hx
  · exact lt_of_block hv.1
  · exact (own_lt hv.2 x hx).2


/-! ### Numbers there and back -/
theorem byteOf_toNat (n : Int) : ((byteOf n).toNat : Int) = n % 256 := by
  have h1 := Int.emod_nonneg n (show (256 : Int) ≠ 0 by decide)
  have h2 := Int.emod_lt_of_pos n (show (0 : Int) < 256 by decide)
  unfold byteOf
  rw [show (UInt8.ofNat (n % 256).toNat).toNat = (n % 256).toNat from by simp; omega]
  omega
theorem num_beTo (s : Nat) (n : Int) : ∀ k, k ≤ s → ((num (beTo s n k) : Nat) : Int) = (n / 2 ^ (8 * (s - k))) % 256 ^ k := by
  intro k
  induction k with
  | zero => intro _; simp [beTo, num, Int.emod_one]
  | succ k ih =>
    intro hk
    have ih := ih (by omega)
    rw [beTo_succ, num_snoc]
    have e : (8 * ((s : Int) - 1 - (k : Int))).toNat = 8 * (s - (k + 1)) := by omega
    rw [e]
    obtain ⟨q, hq⟩ : ∃ q, q = n / 2 ^ (8 * (s - (k + 1))) := ⟨_, rfl⟩
    rw [← hq]
    have hd : n / 2 ^ (8 * (s - k)) = q / 256 := by
      rw [hq, Int.ediv_ediv_of_nonneg (by exact Int.pow_nonneg (by decide)), show 8 * (s - k) = 8 * (s - (k + 1)) + 8 by omega, Int.pow_add]
      rfl
    rw [hd] at ih
    have hb := byteOf_toNat q
    have h1 : ((num (beTo s n k) * 256 + (byteOf q).toNat : Nat) : Int) = (q / 256) % 256 ^ k * 256 + q % 256 := by rw [← ih, ← hb]; omega
    rw [h1, Int.pow_succ]
    have hp : (0 : Int) < 256 ^ k := Int.pow_pos (by decide)
    have h2 := Int.emod_add_mul_ediv (q / 256) (256 ^ k)
    have h3 := Int.emod_nonneg (q / 256) (show (256 : Int) ^ k ≠ 0 by omega)
    have h4 := Int.emod_lt_of_pos (q / 256) hp
    have h5 := Int.emod_add_mul_ediv q 256
    have h6 := Int.emod_nonneg q (show (256 : Int) ≠ 0 by decide)
    have h7 := Int.emod_lt_of_pos q (show (0 : Int) < 256 by decide)
    obtain ⟨P, hP⟩ : ∃ P : Int, P = 256 ^ k := ⟨_, rfl⟩
    rw [← hP] at h2 h3 h4 hp ⊢
    obtain ⟨x, hx⟩ : ∃ x, x = q / 256 % P := ⟨_, rfl⟩
    obtain ⟨d, hd'⟩ : ∃ d, d = q / 256 / P := ⟨_, rfl⟩
    rw [← hx] at h2 h3 h4 ⊢
    rw [← hd'] at h2
    have h8 : q = (x * 256 + q % 256) + P * 256 * d := by
      have : P * 256 * d = 256 * (P * d) := by rw [Int.mul_comm P 256, Int.mul_assoc]
      rw [this]; omega
    have h9 : q % (P * 256) = x * 256 + q % 256 := by
      conv => lhs; rw [h8]
      rw [Int.add_mul_emod_self_left, Int.emod_eq_of_lt (by omega) (by omega)]
    exact h9.symm

theorem num_be8 (n : Int) : ((num (be 8 n) : Nat) : Int) = n % 18446744073709551616 := by
  have := num_beTo 8 n 8 (Nat.le_refl _)
  simpa [be] using this
theorem wrap_be8 (n : Int) (h1 : -9223372036854775808 ≤ n) (h2 : n ≤ 9223372036854775807) : wrap64 (num (be 8 n)) = n := by
  rw [num_be8]; unfold wrap64; omega

theorem rInt_app (n : Int) (r : List UInt8) (h1 : -9223372036854775808 ≤ n) (h2 : n ≤ 9223372036854775807) : rInt (some (be 8 n ++ r)) = (n, some r) := by
  have hl := be_length 8 n
  have ht : (be 8 n ++ r).take 8 = be 8 n := List.take_left' hl
  have hd : (be 8 n ++ r).drop 8 = r := List.drop_left' hl
  have hle : 8 ≤ (be 8 n ++ r).length := by rw [List.length_append, hl]; omega
  simp only [rInt, rTake, if_pos hle, ht, hd, wrap_be8 n h1 h2]

end Go.Proofs.YtalnkhgonfcabaaDoor

namespace Go.Proofs.YtalnkhgonfcabaaDoor
open Go.RowKit

/-! ### make, of a length that is a variable -/
theorem wpList_make {P : Program} {ops : Array Oper} {rest : List Oper} {o : Oper} {a : Act} {w : World} {Q : Exit → Act → World → Prop} {t e : TypeId} {i : TypeInfo} {z : Value} {size bytes : Nat} (T : SlT P t e i z size bytes) (hgd : o.guard = none) {x y : Operand}
    (ho : o.op = .makeSlice t x y) {kl kc : IntKind} {n : Nat} (hx : a.eval x = .int kl n) (hy : a.eval y = .int kc n) (hc : n * size ≤ 16777216) (hn : bytes * n ≤ 281474976710656)
    (h : ∀ w', w'.heap[w.heap.size]? = some (.cells (madeCells z.cells (n * size)) e (0, 0)) → w'.heap.size = w.heap.size + 1 → Kp [] w w' → wpList P ops Q rest (a.put o.dst (.slice (some ⟨w.heap.size, 0, none⟩) n n)) w') : wpList P ops Q (o :: rest) a w := by
  have hmx : n ≤ 16777216 := by
    have := T.p
    have : n * 1 ≤ n * size := Nat.mul_le_mul_left _ this
    omega
  have hb' : (i.bytes : Int) * (n : Int) ≤ 281474976710656 := by
    have h : ((i.bytes * n : Nat) : Int) ≤ 281474976710656 := by rw [T.b]; omega
    rwa [Int.natCast_mul] at h
  have hr := run_makeSlice (P := P) w t e i z T.u T.hi T.hz kl kc n n (by omega) (Int.le_refl _) (by rw [Int.toNat_natCast, T.s]; exact hc) hb' (by omega)
  rw [Int.toNat_natCast, T.s] at hr
  have hh := h _ (heap_alloc_new w _) (by simp) ((Kp.refl [] w).alloc _)
  refine wpList_plain hgd fun _ hK => ?_
  unfold Oper.wp execOp
  simp only [ho, hx, hy, Sem.run_bind, hr, Result.andThen_ok, Sem.run_pure]
  exact hK _ _ hh

theorem madeCells_u8 (n : Nat) : madeCells (Value.int .u8 0).cells n = (bcs (List.replicate n 0)).toArray := by
  have h0 : ∀ j : Nat, (Value.int .u8 0).cells[j % (Value.int .u8 0).cells.size]! = bcell 0 := fun j => by
    show (#[Value.int .u8 0])[j % 1]! = bcell 0
    rw [Nat.mod_one]; rfl
  unfold madeCells
  rw [show (fun j : Nat => (Value.int .u8 0).cells[j % (Value.int .u8 0).cells.size]!) = fun _ => bcell 0 from funext h0]
  apply Array.ext_getElem?
  intro j
  simp only [bcs, List.map_replicate, Array.getElem?_map, List.getElem?_toArray, List.getElem?_replicate]
  by_cases h : j < n <;> simp [h]

/-- The last m bytes of a number written, the others still nought. -/
def bePart (s : Nat) (n : Int) (m : Nat) : List UInt8 := List.replicate m 0 ++ (be s n).drop m
theorem bePart_zero (s : Nat) (n : Int) : bePart s n 0 = be s n := by simp [bePart]
theorem bePart_all (s : Nat) (n : Int) : bePart s n s = List.replicate s 0 := by simp [bePart, List.drop_eq_nil_of_le, be_length]
theorem bePart_length (s : Nat) (n : Int) (m : Nat) (h : m ≤ s) : (bePart s n m).length = s := by simp [bePart, be_length]; omega
theorem be_at (s : Nat) (n : Int) (m : Nat) (h : m < s) : (be s n)[m]? = some (byteOf (n / 2 ^ (8 * (s - 1 - m)))) := by
  have e : (8 * ((s : Int) - 1 - (m : Int))).toNat = 8 * (s - 1 - m) := by omega
  simp [be, beTo, h, e]
theorem bePart_set (s : Nat) (n : Int) (m : Nat) (h : m < s) : (bePart s n (m + 1)).set m (byteOf (n / 2 ^ (8 * (s - 1 - m)))) = bePart s n m := by
  apply List.ext_getElem?
  intro j
  have hb := be_at s n m h
  by_cases hj : j = m
  · subst hj
    rw [List.getElem?_set_self (by rw [bePart_length _ _ _ (by omega)]; omega)]
    unfold bePart
    rw [List.getElem?_append_right (by simp)]
    simp [hb]
  · rw [List.getElem?_set_ne (fun e => hj e.symm)]
    unfold bePart
    by_cases h1 : j < m
    · rw [List.getElem?_append_left (by rw [List.length_replicate]; omega), List.getElem?_append_left (by rw [List.length_replicate]; omega), List.getElem?_replicate, List.getElem?_replicate, if_pos (by omega), if_pos h1]
    · rw [List.getElem?_append_right (by rw [List.length_replicate]; omega), List.getElem?_append_right (by rw [List.length_replicate]; omega)]
      simp only [List.length_replicate, List.getElem?_drop]
      congr 1; omega

set_option maxHeartbeats 400000 in
theorem number2_any (n : Int) (s : Nat) (w : World) (hs : s ≤ 8) :
    Calls Tryd.prog 98 #[.int .i64 n, .int .i64 s] w fun e w' => ∃ a c, e = .returned (.slice a s c) ∧ w'.ownsRow 0 5 1 (.slice a s c) s (bcs (be s n)) ∧ (∀ x ∈ aF a, w.heap.size ≤ x) ∧ Kp [] w w' := by
  obtain ⟨i0, T⟩ := Tryd.tbytes
  have HT := Lib.hid T
  clear T
  go_enter Tryd.func98, Tryd.ntmps98
  go_wp2_with (refine wpList_make HT.out rfl rfl (n := s) rfl rfl (by omega) (by omega) ?_; intro w1 h1 s1 k1)
  rw [Nat.mul_one, madeCells_u8, ← bePart_all s n] at h1
  have H1 := Lib.hid h1
  have K1 := Lib.hid k1
  clear h1 k1
  go_loopw [0, 6] (fun n' i wr => ∃ m : Nat, m ≤ s ∧ i = .int .i64 ((m : Int) - 1) ∧ n' = .int .i64 (n / 2 ^ (8 * (s - m))) ∧ wr.heap[w.heap.size]? = some (.cells (bcs (bePart s n m)).toArray 5 (0, 0)) ∧ Kp [] w wr) (fun _ i _ => (intOf i + 1).toNat)
  case atStart => exact ⟨s, by omega, by go_num, by simp, H1.out, K1.out⟩
  case round =>
    obtain ⟨m, hm, rfl, rfl, hb, hk⟩ := hrel
    have HB := Lib.hid hb
    have HK := Lib.hid hk
    cases m with
    | zero =>
      clear hb hk
      rw [show (((0 : Nat) : Int) - 1) = -1 by omega]
      go_wp2
      go_ret
      refine ⟨_, _, rfl, ⟨by rw [bcs_length, be_length, Nat.mul_one], .inr ⟨_, s, _, rfl, Nat.zero_le _, HB.out, Nat.le_refl _, ?_, ?_, ?_⟩⟩, fun x hx => ?_, HK.out⟩
      · unfold maxLen; omega
      · rw [bePart_zero, List.size_toArray, bcs_length, be_length, Nat.mul_one]
      · rw [bePart_zero, List.take_of_length_le]; simp [bcs_length, be_length]
      · simp [aF] at hx; omega
    | succ m =>
      have hc : wr.cell? ⟨w.heap.size, m, none⟩ = some (bcell ((bePart s n (m + 1))[m]'(by rw [bePart_length _ _ _ hm]; omega))) := by
        rw [cell_of_row wr _ m _ _ _ hb]
        simp only [bcs, List.getElem?_toArray, List.getElem?_map]
        rw [List.getElem?_eq_getElem (by rw [bePart_length _ _ _ hm]; omega)]; rfl
      have hf : wr.frozen? ⟨w.heap.size, m, none⟩ = false := frozen_of_row wr _ m _ _ hb
      obtain ⟨u, hu⟩ : ∃ u, u = bcell ((bePart s n (m + 1))[m]'(by rw [bePart_length _ _ _ hm]; omega)) := ⟨_, rfl⟩
      rw [← hu] at hc
      clear hu hb hk
      obtain ⟨q, hq⟩ : ∃ q, q = n / 2 ^ (8 * (s - (m + 1))) := ⟨_, rfl⟩
      have hq2 : n / 2 ^ (8 * (s - m)) = q / 256 := by
        rw [hq, show 8 * (s - m) = 8 * (s - (m + 1)) + 8 by omega, Int.pow_add, ← Int.ediv_ediv_of_nonneg (Int.le_of_lt (Int.pow_pos (by decide)))]; rfl
      have HQ := Lib.hid hq
      have HQ2 := Lib.hid hq2
      rw [← hq]
      clear hq hq2
      rw [show (((m + 1 : Nat) : Int) - 1) = (m : Int) by omega]
      go_wp2
      go_roundw
      case rel =>
        refine ⟨m, by omega, by go_num, ?_, ?_, ?_⟩
        · rw [HQ2.out]
        · have := heap_setCell_same wr w.heap.size m _ _ (bcell (byteOf q)) HB.out
          rw [bcs_set, HQ.out, show s - (m + 1) = s - 1 - m by omega, bePart_set s n m (by omega)] at this
          rw [← this, bcell_byteOf, HQ.out, show s - (m + 1) = s - 1 - m by omega]
          simp only [IntKind.wrap, IntKind.bits, IntKind.signed]
          rfl
        · exact HK.out.setCell (.inr (Nat.le_refl _)) _
      case measure => simp [intOf]
end Go.Proofs.YtalnkhgonfcabaaDoor

namespace Go.Proofs.YtalnkhgonfcabaaDoor
open Go.RowKit

/-- A row of bytes that was made anew. -/
def NewB (w : World) (e : Ending) (w' : World) (bs : List UInt8) : Prop :=
  ∃ a c, e = .returned (.slice a bs.length c) ∧ w'.ownsRow 0 5 1 (.slice a bs.length c) bs.length (bcs bs) ∧ (∀ x ∈ aF a, w.heap.size ≤ x) ∧ Kp [] w w'

theorem rint_any (n : Int) (w : World) : Calls Tryd.prog 53 #[.int .i64 n] w fun e w' => NewB w e w' (be 8 n) := by
  go_enter Tryd.func53, Tryd.ntmps53
  go_wp2_with fail
  refine (number2_any n 8 _ (by decide)).mono ?_
  rintro e w1 ⟨a, c, rfl, h⟩
  have H := Lib.hid h
  clear h
  go_wp2
  go_ret
  exact ⟨a, c, by rw [be_length]; rfl, by rw [be_length]; exact H.out⟩

theorem rcount_any (n : Int) (w : World) : Calls Tryd.prog 121 #[.int .i64 n] w fun e w' => NewB w e w' (be 4 n) := by
  go_enter Tryd.func121, Tryd.ntmps121
  go_wp2_with fail
  refine (number2_any n 4 _ (by decide)).mono ?_
  rintro e w1 ⟨a, c, rfl, h⟩
  have H := Lib.hid h
  clear h
  go_wp2
  go_ret
  exact ⟨a, c, by rw [be_length]; rfl, by rw [be_length]; exact H.out⟩


end Go.Proofs.YtalnkhgonfcabaaDoor

namespace Go.Proofs.YtalnkhgonfcabaaDoor
open Go.RowKit

theorem hsc_eq (l : List Hsh) : hsc l = bcs (hb l) := by
  induction l with
  | nil => rfl
  | cons x l ih => unfold hsc hb bcs at *; simp only [List.flatMap_cons, List.map_append, ← ih]; rfl

set_option maxHeartbeats 800000 in
theorem rhashes_any (a : Option Addr) (c : Nat) (l : List Hsh) (w : World) (hr : Rd w a l.length c 32 (hsc l)) (hll : l.length ≤ 16777216) :
    Calls Tryd.prog 76 #[.slice a l.length c] w fun e w' => NewB w e w' (be 4 l.length ++ hb l) := by
  obtain ⟨i0, T⟩ := Tryd.tbytes
  have HT := Lib.hid T
  have HR := Lib.hid hr
  have hbl := hb_length l
  have HBL := Lib.hid hbl
  clear T hr hbl
  go_enter Tryd.func76, Tryd.ntmps76
  go_wp2_with fail
  refine (rcount_any l.length _).mono ?_
  rintro e w1 ⟨a1, c1, rfl, hown, hF, k1⟩
  rw [be_length] at hown
  rw [be_length]
  have HF := Lib.hid hF
  have HO := Lib.hid hown
  have K1 := Lib.hid k1
  clear hown hF k1
  go_wp2
  go_loopw [3, 4, 5] (fun v i _ wr => ∃ (k : Nat) (a2 : Option Addr) (c2 : Nat), k ≤ l.length ∧ i = .int .i64 k ∧ v = .slice a2 (4 + 32 * k) c2 ∧ wr.ownsRow 0 5 1 (.slice a2 (4 + 32 * k) c2) (4 + 32 * k) (bcs (be 4 l.length ++ (hb l).take (32 * k))) ∧ (∀ x ∈ aF a2, w.heap.size ≤ x) ∧ Kp [] w wr) (fun _ i _ _ => l.length - (intOf i).toNat)
  case atStart => exact ⟨0, a1, c1, by omega, rfl, rfl, by simpa using HO.out, HF.out, K1.out⟩
  case round =>
    obtain ⟨k, a2, c2, hk, rfl, rfl, hown, hF, hkp⟩ := hrel
    have HO2 := Lib.hid hown
    have HF2 := Lib.hid hF
    have HK := Lib.hid hkp
    clear hown hF hkp
    by_cases hlt : k < l.length
    · go_wp2
      go_loopw [3, 5] (fun v j wr => ∃ (q : Nat) (a2 : Option Addr) (c2 : Nat), q ≤ 32 ∧ j = .int .i64 q ∧ v = .slice a2 (4 + (32 * k + q)) c2 ∧ wr.ownsRow 0 5 1 (.slice a2 (4 + (32 * k + q)) c2) (4 + (32 * k + q)) (bcs (be 4 l.length ++ (hb l).take (32 * k + q))) ∧ (∀ x ∈ aF a2, w.heap.size ≤ x) ∧ Kp [] w wr) (fun _ j _ => 32 - (intOf j).toNat)
      case atStart => exact ⟨0, a2, c2, by omega, rfl, rfl, HO2.out, HF2.out, HK.out⟩
      case round =>
        obtain ⟨q, a3, c3, hq, rfl, rfl, hown3, hF3, hk3⟩ := hrel
        have HO3 := Lib.hid hown3
        have HF3 := Lib.hid hF3
        have HK3 := Lib.hid hk3
        clear hown3 hF3
        by_cases hlq : q < 32
        · have hix : 32 * k + q < (hb l).length := by rw [HBL.out]; omega
          have hrd := HR.out.below hk3
          obtain ⟨b, off, rfl, _, hcs⟩ := hrd.spot (by rw [hsc_length]; omega)
          rw [hsc_eq] at hcs
          obtain ⟨y, hy⟩ : ∃ y, y = (hb l)[32 * k + q] := ⟨_, rfl⟩
          have hc1 := hcs (k * 32 + q) (bcell y) (by rw [show k * 32 + q = 32 * k + q by omega]; simp [bcs, hix, hy])
          have hc2 : wr.cell? ⟨b, off + k * 32 + q, none⟩ = some (bcell y) := by rw [Nat.add_assoc]; exact hc1
          unfold bcell at hc2
          have HY := Lib.hid hy
          clear hcs hrd hc1 hk3 hy
          go_wp2_with (at_builtin; refine wpList_append_rd HT.out rfl rfl rfl (HO3.out.alloc _) rfl (rd_alloc (m := 1) rfl (by simp [maxLen])) (by simp [Value.oneCell']) (by omega) (by simp [maxLen]; omega) ?_; intro a4 c4 w4 hown hgrow hg; have HO4 := Lib.hid hown; have HW := Lib.hid hgrow; have HG := Lib.hid hg; clear hown hgrow hg)
          go_roundw
          case rel =>
            refine ⟨q + 1, a4, c4, by omega, by go_num, rfl, ?_, fun x hx => ?_, ?_⟩
            · have h := HO4.out
              have e : be 4 l.length ++ (hb l).take (32 * k + (q + 1)) = (be 4 l.length ++ (hb l).take (32 * k + q)) ++ [y] := by
                rw [show 32 * k + (q + 1) = (32 * k + q) + 1 by omega, List.take_succ_eq_append_getElem hix, HY.out, List.append_assoc]
              rw [e, bcs_app]
              exact h
            · rcases HG.out x hx with h | h
              · exact HF3.out x h
              · rw [h]; have := HK3.out.size; simp; omega
            · refine ((HK3.out).alloc _).grown HW.out fun z hz => .inr ?_
              cases a3 with
              | none => simp [Value.ownBlock] at hz
              | some b => simp [Value.ownBlock] at hz; exact HF3.out z (by simp [aF, hz])
          case measure => simp [intOf]; omega
        · obtain rfl : q = 32 := by omega
          go_wp2
          go_roundw
          case rel => exact ⟨k + 1, a3, c3, by omega, by go_num, rfl, HO3.out, HF3.out, HK3.out⟩
          case measure => simp [intOf]; omega
    · obtain rfl : k = l.length := by omega
      go_wp2
      go_ret
      have e : (hb l).take (32 * l.length) = hb l := List.take_of_length_le (by rw [HBL.out]; omega)
      have hO := HO2.out
      rw [e] at hO
      have e2 : 4 + 32 * l.length = (be 4 l.length ++ hb l).length := by rw [List.length_append, be_length, HBL.out]; omega
      exact ⟨a2, c2, by rw [← e2]; rfl, by rw [← e2]; exact hO, HF2.out, HK.out⟩
end Go.Proofs.YtalnkhgonfcabaaDoor
