/- errors.Is at sentinels made by errors.New, and wire.wrong. (After a worked proof of the kit: errors.Is by its contracts.) -/
import Derived.Test.YtlmimmdaniggiaaDoorChecked
import Derived.Test.YtlmimmdaniggiaaDoorWireNumber
import Derived.LaidEql
import Derived.Stop.Asserts
import Derived.RowKitTokens
namespace Go.Proofs.YtlmimmdaniggiaaDoor
open Go.RowKit Go.Extern.Stop Go.Stop Go.Extern

theorem isTypeOf (v : Value) (w : World) : (Extern.ReflectliteType.typeOf #[.iface 76 v]).run Tryd.prog w = .ok (.iface 67 (.agg #[.pointer (some ⟨2, 76, none⟩)])) w := by kernel_rfl
/-- the entry of the model for (rtype).Comparable -/
def cmpExt : Array Value → Sem Value := Extern.ReflectliteType.method fun t => do Extern.Rtype.noPackHeld "Comparable" t; pure (.bool (← typeInfo t).comparable)
theorem isComparable (w : World) : (cmpExt #[.agg #[.pointer (some ⟨2, 76, none⟩)]]).run Tryd.prog w = .ok (.bool true) w := by kernel_rfl
theorem isMethodComparable (v : Value) (w : World) : (Go.method 213 67 v "Comparable").run Tryd.prog w = .ok (44, v) w := by kernel_rfl
theorem isComp : (Tryd.prog.info? 76).map (·.comparable) = some true := by kernel_rfl
theorem isSize : (Tryd.prog.info? 101).map (·.size) = some 1 := by kernel_rfl
theorem noIsE (v : Value) (xT : TypeId) (w : World) : (Instr.typeAssert (.iface 76 v) xT 69 true).run Tryd.prog w = .ok (.tuple #[.nilIface, .bool false]) w := run_typeAssert_lacksB Tryd.underlying69 (by kernel_rfl) (by kernel_rfl) v xT w
theorem noUnwrapE (v : Value) (xT : TypeId) (w : World) : (Instr.typeAssert (.iface 76 v) xT 71 true).run Tryd.prog w = .ok (.tuple #[.nilIface, .bool false]) w := run_typeAssert_lacksB Tryd.underlying71 (by kernel_rfl) (by kernel_rfl) v xT w
theorem noUnwrapsE (v : Value) (xT : TypeId) (w : World) : (Instr.typeAssert (.iface 76 v) xT 73 true).run Tryd.prog w = .ok (.tuple #[.nilIface, .bool false]) w := run_typeAssert_lacksB Tryd.underlying73 (by kernel_rfl) (by kernel_rfl) v xT w

theorem is_same (a : Addr) (w : World) :
    Calls Tryd.prog 22 #[errV a, errV a] w fun e w' => e = .returned (.bool true) ∧ w = w' := by
  obtain ⟨i, hi, hcmp⟩ := Option.map_eq_some_iff.1 isComp
  obtain ⟨j, hj, hjs⟩ := Option.map_eq_some_iff.1 isSize
  have h8 := @run_callFunc_extern Tryd.prog 24 _ Extern.ReflectliteType.typeOf Tryd.func24 (by kernel_rfl) (by kernel_rfl) (by kernel_rfl) (by kernel_rfl)
  have h32 := @run_callFunc_extern Tryd.prog 44 _ cmpExt Tryd.func44 (by kernel_rfl) (by kernel_rfl) (by kernel_rfl) (by kernel_rfl)
  have tT := isTypeOf
  have cT := isComparable
  have mR := isMethodComparable
  have heq := run_eql_iface_ptr_same (P := Tryd.prog) w a Tryd.underlying46 Tryd.underlying76 hi hcmp hj
  go_enter Tryd.func22, Tryd.ntmps22
  go_wp2
  refine wp_loop_rounds 1 ?_
  rw [rounds_succ]
  go_wp2
  go_ret
  exact ⟨rfl, rfl⟩

theorem is_nil (b : Addr) (w : World) :
    Calls Tryd.prog 22 #[.nilIface, errV b] w fun e w' => e = .returned (.bool false) ∧ w = w' := by
  have hn := run_eql_iface_nil_left (P := Tryd.prog) w 76 (.pointer (some b)) Tryd.underlying46
  go_enter Tryd.func22, Tryd.ntmps22
  go_wp2
  go_ret
  exact ⟨rfl, rfl⟩

theorem is_other (a b : Addr) (ca cb : Array Value) (ta tb : TypeId) (w : World) (hne : a ≠ b) (ha : w.heap[a.block]? = some (.cells ca ta (0, 0))) (hb : w.heap[b.block]? = some (.cells cb tb (0, 0))) :
    Calls Tryd.prog 22 #[errV a, errV b] w fun e w' => e = .returned (.bool false) ∧ w = w' := by
  obtain ⟨i, hi, hcmp⟩ := Option.map_eq_some_iff.1 isComp
  obtain ⟨j, hj, hjs⟩ := Option.map_eq_some_iff.1 isSize
  have h8 := @run_callFunc_extern Tryd.prog 24 _ Extern.ReflectliteType.typeOf Tryd.func24 (by kernel_rfl) (by kernel_rfl) (by kernel_rfl) (by kernel_rfl)
  have h32 := @run_callFunc_extern Tryd.prog 44 _ cmpExt Tryd.func44 (by kernel_rfl) (by kernel_rfl) (by kernel_rfl) (by kernel_rfl)
  have tT := isTypeOf
  have cT := isComparable
  have mR := isMethodComparable
  have nE := noIsE
  have uE := noUnwrapE
  have vE := noUnwrapsE
  have heq := run_eql_iface_ptr_other (P := Tryd.prog) w Tryd.underlying46 Tryd.underlying76 hi hcmp hj (by rw [hjs]; decide) hne ha hb
  go_enter Tryd.func22, Tryd.ntmps22
  go_wp2
  refine wp_loop_rounds 1 ?_
  rw [rounds_succ]
  go_wp2
  go_ret
  exact ⟨rfl, rfl⟩

/-- what the two package-level errors of wire are: two pointers, to two blocks -/
structure Errs (aE aF : Addr) (w : World) : Prop where
  e : w.cell? ⟨0, 0, none⟩ = some (errV aE)
  f : w.cell? ⟨1, 0, none⟩ = some (errV aF)
  ne : aE ≠ aF
  he : ∃ c t, w.heap[aE.block]? = some (.cells c t (0, 0))
  hf : ∃ c t, w.heap[aF.block]? = some (.cells c t (0, 0))
  sz : 1 < w.heap.size

theorem wrong_nil (aE aF : Addr) (w : World) (h : Errs aE aF w) :
    Calls Tryd.prog 16 #[.nilIface] w fun e w' => e = .returned (.bool false) ∧ w = w' := by
  have h1 := h.e
  have h2 := h.f
  go_enter Tryd.func16, Tryd.ntmps16
  go_wp2_with (go_at_call 22; refine (is_nil _ _).mono ?_; rintro e w' ⟨rfl, rfl⟩)
  go_ret
  exact ⟨rfl, rfl⟩

theorem wrong_e (aE aF : Addr) (w : World) (h : Errs aE aF w) :
    Calls Tryd.prog 16 #[errV aE] w fun e w' => e = .returned (.bool true) ∧ w = w' := by
  have h1 := h.e
  have h2 := h.f
  go_enter Tryd.func16, Tryd.ntmps16
  go_wp2_with (go_at_call 22; refine (is_same _ _).mono ?_; rintro e w' ⟨rfl, rfl⟩)
  go_ret
  exact ⟨rfl, rfl⟩

theorem wrong_f (aE aF : Addr) (w : World) (h : Errs aE aF w) :
    Calls Tryd.prog 16 #[errV aF] w fun e w' => e = .returned (.bool true) ∧ w = w' := by
  have h1 := h.e
  have h2 := h.f
  obtain ⟨c1, t1, hb1⟩ := h.he
  obtain ⟨c2, t2, hb2⟩ := h.hf
  have HN := Lib.hid h.ne.symm
  go_enter Tryd.func16, Tryd.ntmps16
  go_wp2_with fail
  refine (is_other aF aE c2 c1 t2 t1 _ HN.out hb2 hb1).mono ?_
  rintro e w' ⟨rfl, rfl⟩
  go_wp2_with fail
  refine (is_same _ _).mono ?_
  rintro e w' ⟨rfl, rfl⟩
  go_wp2
  go_ret
  exact ⟨rfl, rfl⟩

end Go.Proofs.YtlmimmdaniggiaaDoor
