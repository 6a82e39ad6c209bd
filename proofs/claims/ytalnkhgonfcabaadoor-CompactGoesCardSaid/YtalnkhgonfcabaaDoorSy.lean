/-
  FURTHER LAWS FOR WALKS OVER FRAMES THAT ARE LISTS: a call that begins with what lies behind a pointer; nil; bits.
-/
import Derived.Test.YtalnkhgonfcabaaDoorR
import Derived.Laws.Pointers
import Derived.Lib.ConvBytes
namespace Go.Proofs.YtalnkhgonfcabaaDoor
open Go.RowKit

theorem calls_stL {P : Program} {fn : Func} {F : List Nat} {w0 : World} {L : List Bk} {R : List Rw} {f : FuncId} {c : Code} {args : List Value} {Rr : Ending → World → Prop} (hS : St F w0 L R w0) (hf : P.funcs[f]? = some fn) (hb : fn.body = some c) {n : Nat} (hn : fn.ntmps = n) (hle : Nat.ble args.length n = true)
    (h : ∀ a w, Fr (numbered 0 args) n a → St F w0 L R w → c.wp P (bodyPost P fn Rr) a w) : Calls P f args.toArray w0 Rr := calls_sx hf hb hn hle fun a hF => h a w0 hF hS
theorem R.calls_stL {P : Program} {fn : Func} {F : List Nat} {w0 : World} {L : List Bk} {Z : List Rw} {f : FuncId} {c : Code} {args : List Value} {Rr : Ending → World → Prop} (hS : St F w0 L Z w0) (hf : P.funcs[f]? = some fn) (hb : fn.body = some c) {n : Nat} (hn : fn.ntmps = n) (hle : Nat.ble args.length n = true)
    (h : ∀ a w, R.Fr [] (numbered 0 args) n a → St F w0 L Z w → c.wpIn (R.Wd none) 0 P (bodyPostM (R.Wd none) 0 P fn Rr) a w) : Calls P f args.toArray w0 Rr :=
  callsIn_wide.1 (R.callsIn_it hf hb hn hle fun a w hF hw => by subst hw; exact h a w hF hS)
theorem kp_own {F : List Nat} {w0 w : World} {L : List Bk} {R : List Rw} (h : St F w0 L R w) (hF : ∀ x ∈ F, ∃ b ∈ L, b.g = x ∧ w0.heap[x]? = some (.cells b.c b.t (0, 0))) : Kp [] w0 w :=
  ⟨h.kp.os, h.kp.tape, h.kp.output, h.kp.size, fun k hk _ => by
    by_cases hkF : k ∈ F
    · obtain ⟨b, hb, rfl, h0⟩ := hF k hkF
      rw [h.blk b hb, h0]
    · exact h.kp.block k hk hkF⟩
/-- The one block behind the pointer is as it was. -/
theorem kp_own1 {g : Nat} {w0 w : World} {L : List Bk} {R : List Rw} {s : List (Nat × Value)} {bt : TypeId} {put : List (Nat × Value) → List Bk} (h : St [g] w0 L R w) [hb : FindB g L s bt put] (hg : w0.heap[g]? = some (.cells (sgA s) bt (0, 0))) : Kp [] w0 w := by
  obtain ⟨L1, L2, rfl, _⟩ := hb.out
  exact kp_own h fun x hx => by
    obtain rfl := List.mem_singleton.1 hx
    exact ⟨⟨x, sgA s, bt⟩, by simp, rfl, hg⟩
theorem St.rperm {F : List Nat} {w0 w : World} {L : List Bk} {R R' : List Rw} (h : St F w0 L R w) (hp : R'.Perm R) : St F w0 L R' w := by
  have hi : (ids L R').Perm (ids L R) := List.Perm.append_left _ (hp.flatMap_right _)
  exact ⟨h.kp, h.blk, fun r hr => h.row r (hp.subset hr), fun x hx => h.new x (hi.subset hx), hi.nodup_iff.2 h.nd⟩
theorem St.rswap {F : List Nat} {w0 w : World} {L : List Bk} {R : List Rw} {r q : Rw} (h : St F w0 L (r :: q :: R) w) : St F w0 L (q :: r :: R) w := h.rperm (List.Perm.swap r q R)
/-- A row more, that nobody here owns yet. -/
theorem St.addRow2 {F : List Nat} {w0 w : World} {L : List Bk} {R : List Rw} (h : St F w0 L R w) {e : TypeId} {size : Nat} {a : Option Addr} {n c : Nat} {xs : List Value} (ho : w.ownsRow 0 e size (.slice a n c) n xs) (hf : ∀ x ∈ aF a, w0.heap.size ≤ x ∧ x ∉ ids L R) : St F w0 L (⟨e, size, a, n, c, xs⟩ :: R) w := by
  have hsub : ∀ x, x ∈ ids L (⟨e, size, a, n, c, xs⟩ :: R) → x ∈ aF a ∨ x ∈ ids L R := fun x hx => by
    rw [ids_row] at hx
    simp only [List.mem_append] at hx
    simp only [ids, List.mem_append]
    rcases hx with hx | hx | hx
    · exact .inr (.inl hx)
    · exact .inl hx
    · exact .inr (.inr hx)
  refine ⟨h.kp, h.blk, fun r hr => ?_, fun x hx => ?_, ?_⟩
  · rcases List.mem_cons.1 hr with rfl | hr
    · exact ho
    · exact h.row r hr
  · rcases hsub x hx with hx | hx
    · exact .inl (hf x hx).1
    · exact h.new x hx
  · have hnd := List.nodup_append.1 h.nd
    have ha : (aF a).Nodup := by cases a <;> simp [aF]
    have hold : ∀ x ∈ ids L R, x ∉ aF a := fun x hx hh => (hf x hh).2 hx
    rw [ids_row, List.nodup_append]
    refine ⟨hnd.1, ?_, fun x hx y hy => ?_⟩
    · rw [List.nodup_append]
      refine ⟨ha, hnd.2.1, fun x hx y hy hh => ?_⟩
      subst hh
      exact hold x (by simp only [ids, List.mem_append]; exact .inr hy) hx
    · rcases List.mem_append.1 hy with hy | hy
      · intro hh; subst hh; exact hold x (by simp only [ids, List.mem_append]; exact .inl hx) hy
      · exact hnd.2.2 x hx y hy
/-- The block behind the pointer, the oldest one, is as it was: what else there is is new. -/
theorem St.own1 {w0 w : World} {L : List Bk} {Z : List Rw} {b : Bk} (h : St [b.g] w0 (L ++ [b]) Z w) (hk : Kp [] w0 w) : St [] w0 L Z w := by
  have hsub : (ids L Z).Sublist (ids (L ++ [b]) Z) := List.Sublist.append (by simp) (List.Sublist.refl _)
  refine ⟨hk, fun x hx => h.blk x (List.mem_append.2 (.inl hx)), h.row, fun x hx => ?_, h.nd.sublist hsub⟩
  rcases h.new x (hsub.subset hx) with h1 | h1
  · exact .inl h1
  · exfalso
    have hxb : x = b.g := List.mem_singleton.1 h1
    have hnd := h.nd
    simp only [ids, List.map_append, List.map_cons, List.map_nil] at hnd hx
    have h2 := List.nodup_append.1 hnd
    rcases List.mem_append.1 hx with h3 | h3
    · exact (List.nodup_append.1 h2.1).2.2 x h3 b.g (by simp) hxb
    · exact h2.2.2 b.g (by simp) x h3 hxb.symm
theorem St.rdL {F : List Nat} {w0 w : World} {L : List Bk} {R : List Rw} {g : Nat} {s : List (Nat × Value)} {bt : TypeId} {put : List (Nat × Value) → List Bk} (hS : St F w0 L R w) [hb : FindB g L s bt put] [hw : SgW s] {k size : Nat} (hk : sgN s = k * size) (hm : k ≤ 9223372036854775807) : Rd w (some ⟨g, 0, none⟩) k k size (sgL s) := rd_sg hS hk hm
theorem St.row3 {F : List Nat} {w0 w : World} {L : List Bk} {R : List Rw} {e size n c : Nat} {a : Option Addr} {xs : List Value} {r q s : Rw} (h : St F w0 L (r :: q :: s :: ⟨e, size, a, n, c, xs⟩ :: R) w) : Rd w a n c size xs := own_rd (h.row _ (List.mem_cons_of_mem _ (List.mem_cons_of_mem _ (List.mem_cons_of_mem _ List.mem_cons_self))))
theorem St.row4 {F : List Nat} {w0 w : World} {L : List Bk} {R : List Rw} {e size n c : Nat} {a : Option Addr} {xs : List Value} {r q s u : Rw} (h : St F w0 L (r :: q :: s :: u :: ⟨e, size, a, n, c, xs⟩ :: R) w) : Rd w a n c size xs := own_rd (h.row _ (List.mem_cons_of_mem _ (List.mem_cons_of_mem _ (List.mem_cons_of_mem _ (List.mem_cons_of_mem _ List.mem_cons_self)))))
section
variable {P : Program} {S : World → Prop} {m : List (Nat × Value)} {x y : Operand}
theorem yl_eqNil {t e : TypeId} (hu : P.underlying t = some (.slice e)) {a : Option Addr} {n c : Nat} (hx : ev m x = some (.slice a n c)) (hy : ev m y = some (.slice none 0 0)) {b : Bool} (h : a.isNone = b) : Yl P S (.binOp .eql t x y t) m (.bool b) :=
  yl_bin hx hy fun w _ => by
    have h1 : (Op.equal t (.slice a n c) (.slice none 0 0)).run P w = .ok a.isNone w := run_equalIn_slice_nil w 9999 t e a n c hu
    rw [← h]
    simp [eqGuard, binOp, h1]
theorem yl_neNil {t e : TypeId} (hu : P.underlying t = some (.slice e)) {a : Option Addr} {n c : Nat} (hx : ev m x = some (.slice a n c)) (hy : ev m y = some (.slice none 0 0)) {b : Bool} (h : (!a.isNone) = b) : Yl P S (.binOp .neq t x y t) m (.bool b) :=
  yl_bin hx hy fun w _ => by
    have h1 : (Op.equal t (.slice a n c) (.slice none 0 0)).run P w = .ok a.isNone w := run_equalIn_slice_nil w 9999 t e a n c hu
    rw [← h]
    simp [eqGuard, binOp, h1]
theorem yl_eqPtr {t : TypeId} (hu : P.underlying t = some (.pointer (P.pointee t))) {p : Option Addr} (hx : ev m x = some (.pointer p)) (hy : ev m y = some (.pointer none)) {b : Bool} (h : p.isNone = b) : Yl P S (.binOp .eql t x y t) m (.bool b) :=
  yl_bin hx hy fun w _ => by
    have h1 := run_equal_pointer_nil (P := P) w t p hu
    rw [← h]
    simp [eqGuard, binOp, h1]
theorem yl_nePtr {t : TypeId} (hu : P.underlying t = some (.pointer (P.pointee t))) {p : Option Addr} (hx : ev m x = some (.pointer p)) (hy : ev m y = some (.pointer none)) {b : Bool} (h : (!p.isNone) = b) : Yl P S (.binOp .neq t x y t) m (.bool b) :=
  yl_bin hx hy fun w _ => by
    have h1 := run_equal_pointer_nil (P := P) w t p hu
    rw [← h]
    simp [eqGuard, binOp, h1]
theorem yl_iconvN {s d : TypeId} {k dk : IntKind} {n : Nat} (hx : ev m x = some (.int k (n : Int))) (hs : (P.underlying s).isSome = true) (hd : P.underlying d = some (.int dk)) (hw : dk.wrap (n : Int) = n) : Yl P S (.convert s d x) m (.int dk (n : Int)) :=
  (yl_iconv hx hs hd).to (by rw [hw])
theorem wrap_u64n {n : Nat} (h : n < 18446744073709551616) : IntKind.u64.wrap (n : Int) = n := by rw [IntKind.wrap_u64]; omega
/-- The complement of a number of 64 bits. -/
theorem yl_com64 {t : TypeId} {n : Nat} (hn : n < 18446744073709551616) (hx : ev m x = some (.int .u64 (n : Int))) : Yl P S (.unOp .xor t x) m (.int .u64 ((18446744073709551615 - n : Nat) : Int)) :=
  yl_un hx fun w => by
    have h1 : (Op.unary .xor (.int .u64 (n : Int))).run P w = .ok (.int .u64 (bits .xor .u64 IntKind.u64.max n)) w := rfl
    rw [h1]
    congr 2
    have h2 : (BitVec.ofInt 64 IntKind.u64.max ^^^ BitVec.ofInt 64 (n : Int)) = ~~~ (BitVec.ofInt 64 (n : Int)) := by
      rw [show BitVec.ofInt 64 IntKind.u64.max = BitVec.allOnes 64 by decide]
      exact BitVec.allOnes_xor
    show IntKind.u64.wrap ((BitVec.ofInt 64 IntKind.u64.max ^^^ BitVec.ofInt 64 (n : Int)).toNat : Int) = _
    rw [h2, BitVec.toNat_not, BitVec.ofInt_natCast, BitVec.toNat_ofNat, Nat.mod_eq_of_lt hn, IntKind.wrap_u64]
    omega
end
/-! ### Rows of pairs of numbers -/
def pvs (l : List (Nat × Nat)) : List Value := l.flatMap fun p => [.int .i64 (p.1 : Int), .int .i64 (p.2 : Int)]
theorem pvs_length (l : List (Nat × Nat)) : (pvs l).length = l.length * 2 := by
  induction l with
  | nil => rfl
  | cons x l ih => unfold pvs at *; simp only [List.flatMap_cons, List.length_append, ih, List.length_cons, List.length_nil]; omega
theorem pvs_app (l : List (Nat × Nat)) (x y : Nat) : pvs l ++ sgL [(2, .agg (sgA [(1, .int .i64 (x : Int)), (1, .int .i64 (y : Int))]))] = pvs (l ++ [(x, y)]) := by
  simp [pvs, sgL, sgA, Value.cells]
theorem pvs_at : ∀ (l : List (Nat × Nat)) (k x y : Nat), l[k]? = some (x, y) → (pvs l)[k * 2]? = some (.int .i64 (x : Int)) ∧ (pvs l)[k * 2 + 1]? = some (.int .i64 (y : Int))
  | [], k, x, y, h => by cases k <;> cases h
  | p :: l, 0, x, y, h => by obtain rfl := Option.some.inj h; exact ⟨rfl, rfl⟩
  | p :: l, k + 1, x, y, h => by
    have := pvs_at l k x y h
    rw [show (k + 1) * 2 = k * 2 + 2 by omega]
    exact this
instance {x y : Int} : Cv 2 (.agg (sgA [(1, .int .i64 x), (1, .int .i64 y)])) := cv_sg (s := [(1, .int .i64 x), (1, .int .i64 y)]) inferInstance
theorem ld_elP {P : Program} {S : World → Prop} {m : List (Nat × Value)} {t : TypeId} {x : Operand} {a : Option Addr} {c k : Nat} {l : List (Nat × Nat)} (T : AgT P t 2) (hx : ev m x = some (.pointer (elA a k 2))) {p q : Nat} (hk : l[k]? = some (p, q)) (hr : ∀ w, S w → Rd w a l.length c 2 (pvs l)) : Yl P S (.load t x) m (.agg (sgA [(1, .int .i64 (p : Int)), (1, .int .i64 (q : Int))])) :=
  yl_load hx fun w hS => by
    have hlt := (List.getElem?_eq_some_iff.1 hk).1
    obtain ⟨b, off, rfl, _, hc⟩ := (hr w hS).spot (by rw [pvs_length]; omega)
    obtain ⟨e1, e2⟩ := pvs_at l k p q hk
    have hra : w.rangeAt b (off + k * 2) [.int .i64 (p : Int), .int .i64 (q : Int)] := by
      intro j v hj
      rw [Nat.add_assoc]
      match j, hj with
      | 0, hj => obtain rfl := Option.some.inj hj; exact hc _ _ e1
      | 1, hj => obtain rfl := Option.some.inj hj; exact hc _ _ e2
    show (Instr.loadAt t (.pointer (some ((⟨b, off, none⟩ : Addr).add (k * 2))))).run P w = _
    rw [Addr.add_mid, show sgA [(1, .int .i64 (p : Int)), (1, .int .i64 (q : Int))] = [Value.int .i64 (p : Int), .int .i64 (q : Int)].toArray from rfl]
    exact run_load_ag T hra rfl
/-- A hash of one byte, zeros behind it. -/
theorem bd_h1 {P : Program} {S : World → Prop} {m : List (Nat × Value)} {t e : TypeId} {x : Operand} {b : UInt8} (hu : P.underlying t = some (.array 32 e)) (hs : (P.info? e).map (·.size) = some 1) (Z : ZeT P t (hv zeroH)) (hx : ev m x = some (bcell b)) : Yl P S (.build t #[(0, x)]) m (hv (toH (b :: List.replicate 31 0))) := by
  have h := bd_ar (S := S) (parts := #[(0, x)]) (s0 := [(1, bcell 0), (1, bcell 0), (1, bcell 0), (1, bcell 0), (1, bcell 0), (1, bcell 0), (1, bcell 0), (1, bcell 0), (1, bcell 0), (1, bcell 0), (1, bcell 0), (1, bcell 0), (1, bcell 0), (1, bcell 0), (1, bcell 0), (1, bcell 0), (1, bcell 0), (1, bcell 0), (1, bcell 0), (1, bcell 0), (1, bcell 0), (1, bcell 0), (1, bcell 0), (1, bcell 0), (1, bcell 0), (1, bcell 0), (1, bcell 0), (1, bcell 0), (1, bcell 0), (1, bcell 0), (1, bcell 0), (1, bcell 0)]) (s := (1, bcell b) :: [(1, bcell 0), (1, bcell 0), (1, bcell 0), (1, bcell 0), (1, bcell 0), (1, bcell 0), (1, bcell 0), (1, bcell 0), (1, bcell 0), (1, bcell 0), (1, bcell 0), (1, bcell 0), (1, bcell 0), (1, bcell 0), (1, bcell 0), (1, bcell 0), (1, bcell 0), (1, bcell 0), (1, bcell 0), (1, bcell 0), (1, bcell 0), (1, bcell 0), (1, bcell 0), (1, bcell 0), (1, bcell 0), (1, bcell 0), (1, bcell 0), (1, bcell 0), (1, bcell 0), (1, bcell 0), (1, bcell 0)]) hu hs ⟨hv zeroH, Z, rfl⟩ (evs_cons hx evs_nil) (pl := [(0, 1), (1, 1), (2, 1), (3, 1), (4, 1), (5, 1), (6, 1), (7, 1), (8, 1), (9, 1), (10, 1), (11, 1), (12, 1), (13, 1), (14, 1), (15, 1), (16, 1), (17, 1), (18, 1), (19, 1), (20, 1), (21, 1), (22, 1), (23, 1), (24, 1), (25, 1), (26, 1), (27, 1), (28, 1), (29, 1), (30, 1), (31, 1)]) (fun i hi => by simp at hi; subst hi; rfl) (inferInstance : SgW [(1, bcell b)]) rfl
  refine h.to ?_
  have e1 : hvA (toH (b :: List.replicate 31 0)) = (bcs (b :: List.replicate 31 0)).toArray := by
    unfold hvA hcs
    rw [toH_of _ (by simp)]
  show Value.agg _ = Value.agg _
  rw [e1]
  rfl
/-! ### A string's bytes; a row's element -/
theorem kp_bytesWorld (w : World) (e : TypeId) (s : ByteArray) : Kp [] w (Lib.bytesWorld w e s) :=
  ⟨by simp [Lib.bytesWorld, World.freeze, World.alloc, World.drew, -World.alloc_eq, -World.drew_eq], by simp [Lib.bytesWorld, World.freeze, World.alloc, World.drew, -World.alloc_eq, -World.drew_eq], by simp [Lib.bytesWorld, World.freeze, World.alloc, World.drew, -World.alloc_eq, -World.drew_eq], by rw [Lib.bytesWorld_size]; omega, fun k hk _ => Lib.bytesWorld_at_old w e s k hk⟩
theorem ef_strB {P : Program} {m : List (Nat × Value)} {F : List Nat} {w0 w : World} {L : List Bk} {R : List Rw} {src dst e : TypeId} {x : Operand} {u : TypeDesc} (hS : St F w0 L R w) (hs : P.underlying src = some u) (hd : P.underlying dst = some (.slice e)) (he : P.underlying e = some (.int .u8)) {l : List UInt8} (hx : ev m x = some (.string ⟨l.toArray⟩)) (hl : l.length ≤ 1099511627776) :
    Ef P (.convert src dst x) m w (fun v w' => ∃ g c, v = .slice (some ⟨g, 0, none⟩) l.length c ∧ St F w0 L R w' ∧ Rd w' (some ⟨g, 0, none⟩) l.length c 1 (bcs l)) := fun o n a K Q ho hF h => by
  have hr := Lib.run_convert_string_bytes (P := P) w src dst e ⟨l.toArray⟩ hs hd he
  have hk := kp_bytesWorld w e ⟨l.toArray⟩
  unfold Oper.wp execOp
  simp only [ho, hF.eval hx, Sem.run_bind, hr, Result.andThen_ok, Sem.run_pure]
  refine h _ _ ⟨w.heap.size, grownCap w (ByteArray.mk l.toArray).size 0 e, rfl, hS.call hk, ?_⟩
  have hsz : (ByteArray.mk l.toArray).size = l.length := by show l.toArray.size = _; simp
  rw [hsz]
  refine ⟨by simp [bcs], grownCap_ge _ _ _ _, grownCap_le_maxLen _ _ _ _ (by simp [maxLen]; omega), by simp, fun j u hu => ⟨_, rfl, ?_⟩⟩
  have hj : j < l.length := by have := (List.getElem?_eq_some_iff.1 hu).1; simpa [bcs] using this
  have h1 := Lib.bytesWorld_cell w e ⟨l.toArray⟩ j (by rw [hsz]; exact hj)
  have h2 : (⟨w.heap.size, 0, none⟩ : Addr).add j = ⟨w.heap.size, j, none⟩ := by rw [Addr.add_mid, Nat.zero_add]
  rw [h2, h1, ← hu]
  simp [bcs, bcell, List.getElem?_map, List.getElem?_eq_getElem hj, List.getD_eq_getElem?_getD]
theorem hsc_set : ∀ (s : List Hsh) (k : Nat) (h : Hsh), k < s.length → (hsc s).take (k * 32) ++ hcs h ++ (hsc s).drop (k * 32 + 32) = hsc (s.set k h)
  | [], k, h, hk => by simp at hk
  | x :: s, 0, h, _ => by
    simp only [hsc, List.flatMap_cons, List.set_cons_zero, Nat.zero_mul, List.take_zero, List.nil_append, Nat.zero_add]
    rw [List.drop_left' (hcs_length x)]
  | x :: s, k + 1, h, hk => by
    have ih := hsc_set s k h (by simpa using hk)
    simp only [hsc, List.flatMap_cons, List.set_cons_succ] at ih ⊢
    rw [← ih, show (k + 1) * 32 = 32 + k * 32 by omega, show 32 + k * 32 + 32 = 32 + (k * 32 + 32) by omega, List.take_append, List.drop_append, hcs_length, List.take_of_length_le (by rw [hcs_length]; omega), List.drop_eq_nil_of_le (by rw [hcs_length]; omega)]
    simp
theorem ef_setH {P : Program} {m : List (Nat × Value)} {F : List Nat} {w0 w : World} {L : List Bk} {R : List Rw} {t e : TypeId} {x y : Operand} {a : Option Addr} {c : Nat} {s : List Hsh} {k : Nat} {h : Hsh} (hS : St F w0 L (⟨e, 32, a, s.length, c, hsc s⟩ :: R) w) (hi : (P.info? t).map (·.size) = some 32) (hx : ev m x = some (.pointer (elA a k 32))) (hy : ev m y = some (hv h)) (hk : k < s.length) :
    Ef P (.store t x y) m w (fun _ w' => St F w0 L (⟨e, 32, a, (s.set k h).length, c, hsc (s.set k h)⟩ :: R) w') := fun o n b K Q ho hF hK => by
  have hrow : w.ownsRow 0 e 32 (.slice a s.length c) s.length (hsc s) := hS.row _ List.mem_cons_self
  rcases hrow.2 with ⟨h1, h2⟩ | ⟨g, cap, cur, h1, hb, hg, h3, h4, h5, h6⟩
  · simp only [Value.slice.injEq] at h1
    omega
  · simp only [Value.slice.injEq] at h1
    obtain ⟨rfl, _, rfl⟩ := h1
    have hel : elA (some ⟨g, 0, none⟩) k 32 = some ⟨g, k * 32, none⟩ := by simp [elA, Addr.add_mid]
    have hsz : (hsc s).length = s.length * 32 := hsc_length s
    have hfit : k * 32 + 32 ≤ cur.size := by rw [h5]; omega
    refine wp_put_blk hi ho hg (v := hv h) (hvA_size h) hfit (hvA_one h) (by rw [hF.eval hx, hel]) (hF.eval hy) fun w' hg' k' => hK _ w' ?_
    have k0 : St (ids [] [⟨e, 32, some ⟨g, 0, none⟩, s.length, c, hsc s⟩]) w [] [⟨e, 32, some ⟨g, 0, none⟩, (s.set k h).length, c, hsc (s.set k h)⟩] w' := by
      have hids : ids [] [⟨e, 32, some ⟨g, 0, none⟩, s.length, c, hsc s⟩] = [g] := by simp [ids, aF]
      rw [hids]
      refine ⟨k', by simp, fun r hr => ?_, fun x hx => ?_, by simp [ids, aF]⟩
      · obtain rfl := List.mem_singleton.1 hr
        have hsl : (s.set k h).length = s.length := List.length_set
        have hset := hsc_set s k h hk
        have hc : cur.toList = hsc s ++ cur.toList.drop (s.length * 32) := by rw [← h6]; exact (List.take_append_drop _ _).symm
        have hcl : (hcs h).length = 32 := hcs_length h
        have hvl : (hv h).cells.toList = hcs h := rfl
        show w'.ownsRow 0 e 32 (.slice (some ⟨g, 0, none⟩) (s.set k h).length c) (s.set k h).length (hsc (s.set k h))
        rw [hsl]
        refine ⟨by rw [hsc_length, hsl], .inr ⟨g, c, _, rfl, hb, hg', h3, h4, ?_, ?_⟩⟩
        · simp only [List.size_toArray, List.length_append, List.length_take, List.length_drop, hvl, hcl, Array.length_toList]
          omega
        · obtain ⟨D, hD⟩ : ∃ D, D = cur.toList.drop (s.length * 32) := ⟨_, rfl⟩
          rw [← hD] at hc
          have e1 : (hsc s ++ D).take (k * 32) = (hsc s).take (k * 32) := List.take_append_of_le_length (by omega)
          have e2 : (hsc s ++ D).drop (k * 32 + 32) = (hsc s).drop (k * 32 + 32) ++ D := List.drop_append_of_le_length (by omega)
          rw [hvl, List.toList_toArray, hc, e1, e2, ← List.append_assoc, hset, List.take_left' (by rw [hsc_length, hsl])]
      · exact .inr (by simpa [ids, aF] using hx)
    exact St.upd (L1 := []) (R1 := [_]) (L := L) (R := R) hS k0
end Go.Proofs.YtalnkhgonfcabaaDoor
