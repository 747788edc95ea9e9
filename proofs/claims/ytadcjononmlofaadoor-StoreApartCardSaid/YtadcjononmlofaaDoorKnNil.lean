/- The methods of no store. -/
import Derived.Test.YtadcjononmlofaaDoorKnClone
set_option autoImplicit false
namespace Go.Kn
open Go Go.Proofs

variable {G : Gl}

theorem eqBool (a b : Bool) : EqOK Pg Tn.bool (.i (.bool a)) (.i (.bool b)) (a == b) := by
  intro σ w u v x y hu hv
  rw [rel_bool hu, rel_bool hv]
  constructor
  · rw [Sem.run_bind, run_eqGuard_scalar _ _ _ _ _ _ _ (by simp) (by simp), Result.andThen_ok, run_eql_bool w _ _ _ (by kernel_rfl)]
  · rw [Sem.run_bind, run_eqGuard_scalar _ _ _ _ _ _ _ (by simp) (by simp), Result.andThen_ok, run_neq_bool w _ _ _ (by kernel_rfl)]

theorem nil_put (t : List UInt8) : PureC Pg G Fn.store_Store_Put [.nilP, .str t] (.tup [encId Id.none, .int .i64 1]) := by
  refine pureC_of T_ok Fd.store_Store_Put rfl (by kernel_rfl) ?_
  refine ⟨_, eqNilNil, ?_⟩
  rfl

theorem nil_place (y : Id) : PureC Pg G Fn.store_Store_place [.nilP, encId y] (.tup [.int .i64 0, .bool false]) := by
  refine pureC_of T_ok Fd.store_Store_place rfl (by kernel_rfl) ?_
  refine ⟨_, eqNilNil, ?_⟩
  rfl

theorem nil_get (y : Id) : PureC Pg G Fn.store_Store_Get [.nilP, encId y] (.tup [.str [], .bool false]) := by
  refine pureC_of T_ok Fd.store_Store_Get rfl (by kernel_rfl) ?_
  refine ⟨_, _, _, pureCall (nil_place y) rfl, ?_⟩
  rfl

theorem nil_object (y : Id) : PureC Pg G Fn.store_Store_Object [.nilP, encId y] (.tup [encObj (Obj.ofKind 0), .bool false]) := by
  refine pureC_of T_ok Fd.store_Store_Object rfl (by kernel_rfl) ?_
  refine ⟨_, _, _, pureCall (nil_get y) rfl, ?_⟩
  rfl

theorem nil_kind (y : Id) : PureC Pg G Fn.store_Store_Kind [.nilP, encId y] (.int .i64 0) := by
  refine pureC_of T_ok Fd.store_Store_Kind rfl (by kernel_rfl) ?_
  refine ⟨_, _, _, pureCall (nil_get y) rfl, ?_⟩
  rfl

theorem nil_len : PureC Pg G Fn.store_Store_Len [.nilP] (.int .i64 0) := by
  refine pureC_of T_ok Fd.store_Store_Len rfl (by kernel_rfl) ?_
  refine ⟨_, eqNilNil, ?_⟩
  rfl

theorem nil_ids : PureC Pg G Fn.store_Store_Ids [.nilP] (.slice []) := by
  refine pureC_of T_ok Fd.store_Store_Ids rfl (by kernel_rfl) ?_
  refine ⟨_, eqNilNil, ?_⟩
  rfl

theorem nil_copy : PureC Pg G Fn.store_Store_Copy [.nilP] .nilP := by
  refine pureC_of T_ok Fd.store_Store_Copy rfl (by kernel_rfl) ?_
  refine ⟨_, eqNilNil, ?_⟩
  rfl
end Go.Kn
