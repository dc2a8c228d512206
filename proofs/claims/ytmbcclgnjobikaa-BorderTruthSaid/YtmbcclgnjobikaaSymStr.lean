/-
  A walk by rules: strings as lists of bytes. No program is imported.
-/
import Derived.Test.YtmbcclgnjobikaaSymZeros
import Derived.Laws.BytesArg
import Derived.Laws.Strings2
import Derived.Laws.IdiomStrings
namespace Go.Proofs.Ytmbcclgnjobikaa
open Go.RowKit
set_option linter.unusedVariables false
set_option linter.unusedSimpArgs false
abbrev sv (l : List Int) : Value := .string (strOfNums l)
theorem strOf_app (a b : List Int) : strOfNums (a ++ b) = strOfNums a ++ strOfNums b := by
  apply ByteArray.ext
  simp [strOfNums]
theorem strOf_nil : strOfNums [] = { data := #[] } := rfl
theorem u8_back {x : Int} (h : 0 ≤ x ∧ x ≤ 255) : ((UInt8.ofNat x.toNat).toNat : Int) = x := by
  rw [UInt8.toNat_ofNat']; omega
theorem strOf_inj {a b : List Int} (ha : Bs a) (hb : Bs b) (h : strOfNums a = strOfNums b) : a = b := by
  have h1 : (strOfNums a).data.toList.map (fun x : UInt8 => (x.toNat : Int)) = (strOfNums b).data.toList.map (fun x : UInt8 => (x.toNat : Int)) := by rw [h]
  have key : ∀ l : List Int, Bs l → (strOfNums l).data.toList.map (fun x : UInt8 => (x.toNat : Int)) = l := by
    intro l hl
    rw [strOfNums_data, List.map_map]
    conv => rhs; rw [← List.map_id l]
    refine List.map_congr_left fun x hx => ?_
    exact u8_back (hl x hx)
  rw [key a ha, key b hb] at h1
  exact h1
/-- the bytes of a string -/
def numsOf (b : ByteArray) : List Int := b.data.toList.map fun x => (x.toNat : Int)
theorem numsOf_bs (b : ByteArray) : Bs (numsOf b) := by
  intro x hx
  simp only [numsOf, List.mem_map] at hx
  obtain ⟨y, _, rfl⟩ := hx
  have := y.toNat_lt
  omega
theorem strOf_numsOf (b : ByteArray) : strOfNums (numsOf b) = b := by
  apply ByteArray.ext
  simp only [strOfNums, numsOf, List.map_map]
  have : ((fun n : Int => UInt8.ofNat n.toNat) ∘ fun x : UInt8 => (x.toNat : Int)) = id := by
    funext x
    simp only [Function.comp_apply, Int.toNat_natCast, id_eq]
    exact UInt8.ofNat_toNat
  rw [this, List.map_id]
theorem numsOf_len (b : ByteArray) : (numsOf b).length = b.size := by
  simp only [numsOf, List.length_map, Array.length_toList]
  rfl
section
variable {P : Program} {N : Fr} {Q : Exit → Act → World → Prop} {E : Env} {w0 : Base} {L : List Pc} {ops : Array Oper} {l : List Oper} {o : Oper}
theorem str_at {t : TypeId} (h : P.underlying t = some .string) {s : List Int} {k : IntKind} {i : Nat} {x : Int} (hx : s[i]? = some x) (hr : 0 ≤ x ∧ x ≤ 255) (w : World) : (Instr.index t (.string (strOfNums s)) (.int k (i : Int))).run P w = .ok (.int .u8 x) w := by
  have hlt : i < s.length := (List.getElem?_eq_some_iff.1 hx).1
  have hsz := strOfNums_size s
  rw [run_index_string w t _ k _ h, dif_pos (by omega)]
  congr 2
  have e : ((strOfNums s)[((i : Int)).toNat]'(by omega)) = UInt8.ofNat x.toNat := by
    have : (strOfNums s)[((i : Int)).toNat]'(by omega) = (strOfNums s).data[i]'(by rw [show (strOfNums s).data.size = (strOfNums s).size from rfl]; omega) := rfl
    rw [this]
    simp only [strOfNums, List.getElem_toArray, List.getElem_map]
    rw [(List.getElem?_eq_some_iff.1 hx).2]
  rw [e]
  exact u8_back hr
theorem bin_strcat {x y : Operand} {xt : TypeId} {a b : List Int} (h : a.length + b.length ≤ 9223372036854775807) (w : World) : (do eqGuard .add xt x y (.string (strOfNums a)) (.string (strOfNums b)); binOp .add xt (.string (strOfNums a)) (.string (strOfNums b)) : Sem Value).run P w = .ok (sv (a ++ b)) w := by
  have h1 : ¬ (((strOfNums a).size + (strOfNums b).size : Nat) : Int) > IntKind.i64.max := by
    rw [strOfNums_size, strOfNums_size]; show ¬ (_ : Int) > 9223372036854775807; omega
  simp only [eqGuard, binOp, Op.stringOp, if_neg h1, strOf_app, sv]
  simp [go_sem]
theorem str_beq {a b : List Int} (ha : Bs a) (hb : Bs b) : ((strOfNums a).toList == (strOfNums b).toList) = decide (a = b) := by
  by_cases h : a = b
  · subst h; simp
  · have : ¬ (strOfNums a).toList = (strOfNums b).toList := fun e => h (strOf_inj ha hb (by
      apply ByteArray.ext
      rw [ByteArray.toList_eq, ByteArray.toList_eq] at e
      exact Array.toList_inj.1 e))
    simp [h, this]
theorem bin_streq {x y : Operand} {xt : TypeId} {a b : List Int} (ha : Bs a) (hb : Bs b) (w : World) : (do eqGuard .eql xt x y (.string (strOfNums a)) (.string (strOfNums b)); binOp .eql xt (.string (strOfNums a)) (.string (strOfNums b)) : Sem Value).run P w = .ok (.bool (decide (a = b))) w := by
  simp only [binOp_string_eql, str_beq ha hb]
  simp [eqGuard, go_sem]
theorem bin_strne {x y : Operand} {xt : TypeId} {a b : List Int} (ha : Bs a) (hb : Bs b) (w : World) : (do eqGuard .neq xt x y (.string (strOfNums a)) (.string (strOfNums b)); binOp .neq xt (.string (strOfNums a)) (.string (strOfNums b)) : Sem Value).run P w = .ok (.bool (!decide (a = b))) w := by
  simp only [binOp_string_neq, str_beq ha hb]
  simp [eqGuard, go_sem]
theorem strOf_extract (s : List Int) (i j : Nat) : (strOfNums s).extract i j = strOfNums ((s.drop i).take (j - i)) := by
  apply ByteArray.ext
  rw [ByteArray.data_extract]
  simp only [strOfNums, List.extract_toArray, List.extract_eq_take_drop, List.map_take, List.map_drop]
theorem str_cut {t : TypeId} (ht : P.underlying t = some .string) {s : List Int} {k k' : IntKind} {i j : Nat} (h1 : i ≤ j) (h2 : j ≤ s.length) (w : World) :
    (Instr.sliceAt t (.string (strOfNums s)) (some (.int k (i : Int))) (some (.int k' (j : Int))) none).run P w = .ok (sv ((s.drop i).take (j - i))) w := by
  rw [run_sliceAt_string w t _ _ _ _ ht, run_slice_string w t _ k k' _ _ ht (by omega) (by omega) (by rw [strOfNums_size]; omega)]
  simp only [Int.toNat_natCast, strOf_extract]
/-- bytes turned into a string -/
theorem conv_own {src dst e : TypeId} (hs : P.underlying src = some (.slice e)) (he : P.underlying e = some (.int .u8)) (hd : P.underlying dst = some .string) {w : World} {base n c : Nat} {A : Option Addr} {e' : TypeId} {xs : List Int} (h : w.ownsRow base e' 1 (.slice A n c) n (bv xs)) :
    (convert src dst (.slice A n c)).run P w = .ok (sv xs) w := by
  have hlen : xs.length = n := by have := h.1; simpa [bv_len] using this
  rcases h.2 with ⟨e, h2⟩ | ⟨g, cap, cur, a, r⟩
  · cases e
    have : xs = [] := List.eq_nil_of_length_eq_zero (by omega)
    subst this
    exact run_convert_bytes_nil w src _ hs he _ _ dst hd
  · cases a
    refine run_convert_bytes_arg w src _ hs he g 0 n c xs hlen (fun i hi => ?_) dst hd
    have hc := h.cells (g := g) rfl i (Value.int .u8 (xs.getD i 0)) (by
      simp only [bv, List.getElem?_map, List.getD_eq_getElem?_getD]
      rw [List.getElem?_eq_getElem (by omega)]
      rfl)
    rw [← hc]
    congr 1
    unfold Addr.add; split <;> simp_all
theorem gives_str {src dst e e' : TypeId} {x : Operand} {A : Option Addr} {n c k : Nat} {xs : List Int} (ho : o.op = .convert src dst x) (hx : ev E x = some (.slice A n c)) (hs : P.underlying src = some (.slice e)) (he : P.underlying e = some (.int .u8)) (hd : P.underlying dst = some .string)
    (hk : L[k]? = some (.row (.slice A n c) e' 1 n (bv xs))) : Gives P N o E (Pm w0 L) (sv xs) := fun a w ha hw => by
  unfold execOp; rw [ho]
  simp only [ha.eval hx, Sem.run_bind, conv_own hs he hd (hw.at_ hk), Result.andThen_ok, Sem.run_pure]
end
end Go.Proofs.Ytmbcclgnjobikaa
