/- The abstract interpreter: methods that are called through an interface: of a type behind a pointer. -/
import Derived.Test.YtjfppkhaiooloaaGreatDoorAiB
namespace Go.AI

section
variable {P : Program}

theorem meth_ptr {t e : TypeId} {name : String} {f : FuncId} {inf : TypeInfo} {m : Method} (hi : P.info? t = some inf) (hm : inf.methods.find? (·.name == name) = some m) (hp : m.path = #[]) (hf : m.func = some (f, true)) (hu : P.underlying t = some (.pointer e)) (n : Nat) (v : Value) (w : World) :
    (method (n + 1) t v name).run P w = .ok (f, v) w := by
  have hti : (typeInfo t).run P w = .ok inf w := by simp [typeInfo, hi]
  simp [method, hti, hm, hp, hf, follow, receiverAt, run_underlying hu, Place.get]

theorem meth_val {t e : TypeId} {name : String} {f : FuncId} {inf : TypeInfo} {m : Method} (hi : P.info? t = some inf) (hm : inf.methods.find? (·.name == name) = some m) (hp : m.path = #[]) (hf : m.func = some (f, false)) (hu : P.underlying t = some (.pointer e))
    {i : TI} (ht : tyOf P e = some i) (hg : i.agg = false) (T : TyOk P (tyOf P)) (n : Nat) (a : Addr) (q : Value) (w : World) (hl : (load a : Sem Value).run P w = .ok q w) :
    (method (n + 1) t (.pointer (some a)) name).run P w = .ok (f, q) w := by
  have hti : (typeInfo t).run P w = .ok inf w := by simp [typeInfo, hi]
  have hag : (isAgg e).run P w = .ok false w := by rw [← hg]; exact T.run_agg ht w
  have hw : ∀ (x y : String), (Builtin.ssaWrapNilChk_ #[t] t #[.pointer (some a), strVal x, strVal y]).run P w = .ok (.pointer (some a)) w := fun _ _ => rfl
  simp [method, hti, hm, hp, hf, follow, receiverAt, run_underlying hu, Place.get, hw, loadVar, hag, asAddr] at hl ⊢
  rw [hl]
  rfl

end
end Go.AI
