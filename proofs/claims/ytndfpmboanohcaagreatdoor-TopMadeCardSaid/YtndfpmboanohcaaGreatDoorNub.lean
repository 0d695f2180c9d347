/- Contracts of errors.As and of api.Number at an Errno (the toy 'toyas', turned to this program's types: 124 is *Errno, 46 Errno, 42 error, 199 reflectlite's rtype). -/
import Derived.Test.YtndfpmboanohcaaGreatDoorConfToLow
import Derived.LaidEql
import Derived.Stop.Asserts
import Derived.RowKitTokens
namespace Go.Proofs.YtndfpmboanohcaaGreatDoor
open Go.RowKit Go.Extern.Stop Go.Stop Go.Extern
theorem Nb.valueOf124 (t : Addr) (w : World) : (ReflectliteValue.unpack (.iface 124 (.pointer (some t)))).run Tryz.prog w
  = .ok (.agg #[.pointer (some ⟨1, 124, none⟩), .pointer (some ⟨w.heap.size, 0, none⟩), .int .u64 150]) (w.alloc (.cells #[.pointer (some t)] 124)) := by kernel_rfl
theorem Nb.type124 (a : Addr) (w : World) : (ReflectliteValue.methodAny (ReflectliteValue.valueError "reflectlite.Value.Type" 0) (fun t _ _ _ => ReflectliteType.toType t) #[.agg #[.pointer (some ⟨1, 124, none⟩), .pointer (some a), .int .u64 150]]).run Tryz.prog w
  = .ok (.iface 199 (.agg #[.pointer (some ⟨1, 124, none⟩)])) w := by kernel_rfl
theorem Nb.methodKind (h : Value) (w : World) : (Go.method 402 199 (.agg #[h]) "Kind").run Tryz.prog w = .ok (139, h) w := by kernel_rfl
theorem Nb.kind124 (w : World) : ((ReflectliteType.abiMethod fun t => (fun a : Nat => Value.int IntKind.u8 (a : Int)) <$> Rtype.kind t) #[.pointer (some ⟨1, 124, none⟩)]).run Tryz.prog w = .ok (.int .u8 22) w := by kernel_rfl
theorem Nb.kind46 (w : World) : ((ReflectliteType.abiMethod fun t => (fun a : Nat => Value.int IntKind.u8 (a : Int)) <$> Rtype.kind t) #[.pointer (some ⟨1, 46, none⟩)]).run Tryz.prog w = .ok (.int .u8 2) w := by kernel_rfl
theorem Nb.rlm (z : Sem Value) (f : TypeId → Addr → Nat → Nat → Sem Value) (v : Value) :
  ReflectliteValue.method z f #[v] = (do match ← ReflectliteValue.parts v with | none => z | some (t, a, fl) => f t a fl (fl % 32)) := rfl
theorem Nb.parts124 (a : Addr) (w : World) : (ReflectliteValue.parts (.agg #[.pointer (some ⟨1, 124, none⟩), .pointer (some a), .int .u64 150])).run Tryz.prog w = .ok (some (124, a, 150)) w := by kernel_rfl
theorem Nb.isNil124 (a p : Addr) (W : World) (ha : W.cell? a = some (.pointer (some p))) :
  (ReflectliteValue.method (ReflectliteValue.valueError "reflectlite.Value.IsNil" 0) ReflectliteValue.isNil #[.agg #[.pointer (some ⟨1, 124, none⟩), .pointer (some a), .int .u64 150]]).run Tryz.prog W = .ok (.bool false) W := by
 rw [Nb.rlm]
 simp only [Sem.run_bind, Nb.parts124, Result.andThen]
 simp [ReflectliteValue.isNil, loadVar, isAgg, underlying, Tryz.underlying124, ha, Result.andThen]
theorem Nb.methodElem (h : Value) (w : World) : (Go.method 402 199 (.agg #[h]) "Elem").run Tryz.prog w = .ok (184, .agg #[h]) w := by kernel_rfl
theorem Nb.methodImplements (h : Value) (w : World) : (Go.method 402 199 (.agg #[h]) "Implements").run Tryz.prog w = .ok (185, .agg #[h]) w := by kernel_rfl
theorem Nb.methodAssignableTo (h : Value) (w : World) : (Go.method 402 199 (.agg #[h]) "AssignableTo").run Tryz.prog w = .ok (182, .agg #[h]) w := by kernel_rfl
theorem Nb.elem124 (w : World) : (ReflectliteType.method ReflectliteType.elem #[.agg #[.pointer (some ⟨1, 124, none⟩)]]).run Tryz.prog w = .ok (.iface 199 (.agg #[.pointer (some ⟨1, 46, none⟩)])) w := by kernel_rfl
theorem Nb.implements46 (w : World) : (ReflectliteType.relation "Implements" ReflectliteType.implements_ #[.agg #[.pointer (some ⟨1, 46, none⟩)], .iface 199 (.agg #[.pointer (some ⟨1, 42, none⟩)])]).run Tryz.prog w = .ok (.bool true) w := by kernel_rfl
theorem Nb.typeOf46 (v : Value) (w : World) : (ReflectliteType.typeOf #[.iface 46 v]).run Tryz.prog w = .ok (.iface 199 (.agg #[.pointer (some ⟨1, 46, none⟩)])) w := by kernel_rfl
theorem Nb.assignable46 (w : World) : (ReflectliteType.relation "AssignableTo" ReflectliteType.assignableTo #[.agg #[.pointer (some ⟨1, 46, none⟩)], .iface 199 (.agg #[.pointer (some ⟨1, 46, none⟩)])]).run Tryz.prog w = .ok (.bool true) w := by kernel_rfl
theorem Nb.valueOf46 (k : Int) (w : World) : (ReflectliteValue.unpack (.iface 46 (.int .i64 k))).run Tryz.prog w
  = .ok (.agg #[.pointer (some ⟨1, 46, none⟩), .pointer (some ⟨w.heap.size, 0, none⟩), .int .u64 130]) (w.alloc (.cells #[.int .i64 k] 46)) := by kernel_rfl
theorem Nb.elemOf124 (w : World) : (Rtype.elem? 124).run Tryz.prog w = .ok (some 46) w := by kernel_rfl
theorem Nb.mk46 (p : Addr) (w : World) : (ReflectliteValue.mk 46 p ReflectliteValue.flagAddr).run Tryz.prog w = .ok (.agg #[.pointer (some ⟨1, 46, none⟩), .pointer (some p), .int .u64 386]) w := by kernel_rfl
theorem Nb.elemV124 (a p : Addr) (W : World) (ha : W.cell? a = some (.pointer (some p))) :
  (ReflectliteValue.method (ReflectliteValue.valueError "reflectlite.Value.Elem" 0) ReflectliteValue.elem #[.agg #[.pointer (some ⟨1, 124, none⟩), .pointer (some a), .int .u64 150]]).run Tryz.prog W
    = .ok (.agg #[.pointer (some ⟨1, 46, none⟩), .pointer (some p), .int .u64 386]) W := by
 rw [Nb.rlm]
 simp only [Sem.run_bind, Nb.parts124, Result.andThen]
 simp [ReflectliteValue.elem, loadVar, isAgg, underlying, Tryz.underlying124, ha, Result.andThen, Nb.elemOf124, Nb.mk46]
theorem Nb.rls (v x : Value) : ReflectliteValue.set #[v, x] = (do
  let (some (dst, a, fl), some (src, b, _)) := (← ReflectliteValue.parts v, ← ReflectliteValue.parts x)
   | unsupported (.noEntry "extern/(internal/reflectlite.Value).Set.zeroValue")
  if fl / ReflectliteValue.flagAddr % 2 == 0 then unsupported (.noEntry "extern/(internal/reflectlite.Value).Set.unaddressable")
  let val ← loadVar src b
  if ← Rtype.directlyAssignable dst src then storeVar dst a val
  else if ← Rtype.implements dst src then
   if (← Rtype.kind src) == 20 then
    match val with
    | .nilIface => unsupported (.noEntry "extern/reflectlite: a nil value of one interface type handed on as a value of another")
    | _ => storeVar dst a val
   else storeVar dst a (.iface src val)
  else panicString ("reflectlite.Set: value of type " ++ (← Rtype.spelt src) ++ " is not assignable to type " ++ (← Rtype.spelt dst))
  pure (.tuple #[])) := rfl
theorem Nb.parts46a (a : Addr) (w : World) : (ReflectliteValue.parts (.agg #[.pointer (some ⟨1, 46, none⟩), .pointer (some a), .int .u64 386])).run Tryz.prog w = .ok (some (46, a, 386)) w := by kernel_rfl
theorem Nb.parts46 (a : Addr) (w : World) : (ReflectliteValue.parts (.agg #[.pointer (some ⟨1, 46, none⟩), .pointer (some a), .int .u64 130])).run Tryz.prog w = .ok (some (46, a, 130)) w := by kernel_rfl
theorem Nb.direct46 (w : World) : (Rtype.directlyAssignable 46 46).run Tryz.prog w = .ok true w := by kernel_rfl
theorem Nb.set46 (ta b : Addr) (k : Int) (old : Value) (W : World) (hb : W.cell? b = some (.int .i64 k)) (ht : W.cell? ta = some old) (hf : W.frozen? ta = false) :
  (ReflectliteValue.set #[.agg #[.pointer (some ⟨1, 46, none⟩), .pointer (some ta), .int .u64 386], .agg #[.pointer (some ⟨1, 46, none⟩), .pointer (some b), .int .u64 130]]).run Tryz.prog W
    = .ok (.tuple #[]) (W.setCell ta (.int .i64 k)) := by
 rw [Nb.rls]
 simp only [Sem.run_bind, Nb.parts46a, Nb.parts46, Result.andThen]
 simp [ReflectliteValue.flagAddr, loadVar, isAgg, underlying, Tryz.underlying46, hb, Result.andThen, Nb.direct46, storeVar, Value.cells, storeCells, Addr.add]
 rw [run_store Tryz.prog W ta _ _ (by rfl)]
 simp [ht, hf]
theorem set_any (w : World) (t : Addr) (v : Value) : w.grownBy (w.setCell t v) (some t.block) :=
 ⟨rfl, rfl, rfl, by simp, fun k _ hk => heap_setCell_other w t k v (fun e => hk (by rw [e]))⟩
set_option maxHeartbeats 4000000 in
theorem as_errno (k : Int) (t : Addr) (old : Value) (w : World) (hg : w.cell? ⟨0, 0, none⟩ = some (.iface 199 (.agg #[.pointer (some ⟨1, 42, none⟩)]))) (ht0 : w.cell? t = some old) (hf0 : w.frozen? t = false) :
  Calls Tryz.prog 26 #[.iface 46 (.int .i64 k), .iface 124 (.pointer (some t))] w fun ev w' => ev = .returned (.bool true) ∧ w'.cell? t = some (.int .i64 k) ∧ w.grownBy w' (some t.block) := by
 have h6 := @run_callFunc_extern Tryz.prog 43 _ (fun args => ReflectliteValue.unpack (args.getD 0 (.tuple #[]))) Tryz.func43 (by kernel_rfl) (by kernel_rfl) (by kernel_rfl) (by kernel_rfl)
 have h7 := @run_callFunc_extern Tryz.prog 44 _ (ReflectliteValue.methodAny (ReflectliteValue.valueError "reflectlite.Value.Type" 0) (fun t _ _ _ => ReflectliteType.toType t)) Tryz.func44 (by kernel_rfl) (by kernel_rfl) (by kernel_rfl) (by kernel_rfl)
 have h8 := @run_callFunc_extern Tryz.prog 45 _ (ReflectliteValue.method (ReflectliteValue.valueError "reflectlite.Value.IsNil" 0) ReflectliteValue.isNil) Tryz.func45 (by kernel_rfl) (by kernel_rfl) (by kernel_rfl) (by kernel_rfl)
 have h27 := @run_callFunc_extern Tryz.prog 139 _ (ReflectliteType.abiMethod fun t => do pure (.int .u8 (← Rtype.kind t))) Tryz.func139 (by kernel_rfl) (by kernel_rfl) (by kernel_rfl) (by kernel_rfl)
 have h37 := @run_callFunc_extern Tryz.prog 184 _ (ReflectliteType.method ReflectliteType.elem) Tryz.func184 (by kernel_rfl) (by kernel_rfl) (by kernel_rfl) (by kernel_rfl)
 have h38 := @run_callFunc_extern Tryz.prog 185 _ (ReflectliteType.relation "Implements" ReflectliteType.implements_) Tryz.func185 (by kernel_rfl) (by kernel_rfl) (by kernel_rfl) (by kernel_rfl)
 have h10 := @run_callFunc_extern Tryz.prog 63 _ ReflectliteType.typeOf Tryz.func63 (by kernel_rfl) (by kernel_rfl) (by kernel_rfl) (by kernel_rfl)
 have h35 := @run_callFunc_extern Tryz.prog 182 _ (ReflectliteType.relation "AssignableTo" ReflectliteType.assignableTo) Tryz.func182 (by kernel_rfl) (by kernel_rfl) (by kernel_rfl) (by kernel_rfl)
 have h11 := @run_callFunc_extern Tryz.prog 64 _ (ReflectliteValue.method (ReflectliteValue.valueError "reflectlite.Value.Elem" 0) ReflectliteValue.elem) Tryz.func64 (by kernel_rfl) (by kernel_rfl) (by kernel_rfl) (by kernel_rfl)
 have h12 := @run_callFunc_extern Tryz.prog 65 _ ReflectliteValue.set Tryz.func65 (by kernel_rfl) (by kernel_rfl) (by kernel_rfl) (by kernel_rfl)
 have tO := Nb.typeOf46
 have mA := Nb.methodAssignableTo
 have a25 := Nb.assignable46
 have v25 := Nb.valueOf46
 have f6 := Nb.valueOf124
 have f7 := Nb.type124
 have mK := Nb.methodKind
 have mE := Nb.methodElem
 have mI := Nb.methodImplements
 have k27 := Nb.kind124
 have k25 := Nb.kind46
 have e27 := Nb.elem124
 have i25 := Nb.implements46
 have n8 := Nb.isNil124 ⟨w.heap.size, 0, none⟩ t ((w.alloc (.cells #[.pointer (some t)] 124)).alloc (.cells #[.pointer (some ⟨1, 124, none⟩), .pointer (some ⟨w.heap.size, 0, none⟩), .int .u64 150] 158)) (by simp)
 have hlt : 0 < w.heap.size := by
  rcases Nat.eq_zero_or_pos w.heap.size with h0 | h
  ·simp [World.cell?, h0] at hg
  ·exact h
 have hg2 : ((w.alloc (.cells #[.pointer (some t)] 124)).alloc (.cells #[.pointer (some ⟨1, 124, none⟩), .pointer (some ⟨w.heap.size, 0, none⟩), .int .u64 150] 158)).cell? ⟨0, 0, none⟩ = some (.iface 199 (.agg #[.pointer (some ⟨1, 42, none⟩)])) := by
  rw [World.cell?_alloc_lt _ _ ⟨0, 0, none⟩ (by simp), World.cell?_alloc_lt _ _ ⟨0, 0, none⟩ hlt]; exact hg
 have htl : t.block < w.heap.size := by
  rcases Nat.lt_or_ge t.block w.heap.size with h | h
  ·exact h
  ·simp [World.cell?, Array.getElem?_eq_none h] at ht0
 have el := Nb.elemV124 ⟨w.heap.size, 0, none⟩ t (((w.alloc (.cells #[.pointer (some t)] 124)).alloc (.cells #[.pointer (some ⟨1, 124, none⟩), .pointer (some ⟨w.heap.size, 0, none⟩), .int .u64 150] 158)).alloc (.cells #[.pointer (some ⟨1, 124, none⟩), .pointer (some ⟨w.heap.size, 0, none⟩), .int .u64 150] 158)) (by rw [World.cell?_alloc_lt _ _ ⟨w.heap.size, 0, none⟩ (by simp; omega)]; simp)
 have ht4 : ((((w.alloc (.cells #[.pointer (some t)] 124)).alloc (.cells #[.pointer (some ⟨1, 124, none⟩), .pointer (some ⟨w.heap.size, 0, none⟩), .int .u64 150] 158)).alloc (.cells #[.pointer (some ⟨1, 124, none⟩), .pointer (some ⟨w.heap.size, 0, none⟩), .int .u64 150] 158)).alloc (.cells #[.int .i64 k] 46)).cell? t = some old := by rw [World.cell?_alloc_lt _ _ t (by simp; omega), World.cell?_alloc_lt _ _ t (by simp; omega), World.cell?_alloc_lt _ _ t (by simp; omega), World.cell?_alloc_lt _ _ t htl]; exact ht0
 have st := Nb.set46 t ⟨w.heap.size + 1 + 1 + 1, 0, none⟩ k old ((((w.alloc (.cells #[.pointer (some t)] 124)).alloc (.cells #[.pointer (some ⟨1, 124, none⟩), .pointer (some ⟨w.heap.size, 0, none⟩), .int .u64 150] 158)).alloc (.cells #[.pointer (some ⟨1, 124, none⟩), .pointer (some ⟨w.heap.size, 0, none⟩), .int .u64 150] 158)).alloc (.cells #[.int .i64 k] 46))
  (by rw [World.cell?_alloc_at _ _ _ _ (by simp)]; rfl) ht4
  (by rw [World.frozen?_alloc_old _ _ t (by simp; omega), World.frozen?_alloc_old _ _ t (by simp; omega), World.frozen?_alloc_old _ _ t (by simp; omega), World.frozen?_alloc_old _ _ t (Nat.ne_of_lt htl)]; exact hf0)
 have HT4 := lh ht4
 clear ht4
 go_enter Tryz.func26, Tryz.ntmps26
 go_wp2
 refine wp_loop_rounds 1 ?_
 rw [rounds_succ]
 go_wp2
 go_ret
 refine ⟨rfl, World.cell?_setCell_same' _ _ _ (by rw [HT4.out]; rfl), ?_⟩
 exact ((((World.grownBy_alloc w _ _).andThen (World.grownBy_alloc _ _ (some t.block)) (fun _ e => .inr e)).andThen (World.grownBy_alloc _ _ (some t.block)) (fun _ e => .inr e)).andThen (World.grownBy_alloc _ _ (some t.block)) (fun _ e => .inr e)).andThen (set_any _ t _) (fun _ e => .inr e)
theorem number_errno (k : Int) (w : World) (hg : w.cell? ⟨0, 0, none⟩ = some (.iface 199 (.agg #[.pointer (some ⟨1, 42, none⟩)]))) :
  Calls Tryz.prog 16 #[.iface 46 (.int .i64 k)] w fun e w' => e = .returned (.int .i64 k) ∧ w.grownBy w' none := by
 have hlt : 0 < w.heap.size := by
  rcases Nat.eq_zero_or_pos w.heap.size with h0 | h
  ·simp [World.cell?, h0] at hg
  ·exact h
 have hg2 : (w.alloc (.cells #[.int .i64 0] 46)).cell? ⟨0, 0, none⟩ = some (.iface 199 (.agg #[.pointer (some ⟨1, 42, none⟩)])) := by
  rw [World.cell?_alloc_lt _ _ ⟨0, 0, none⟩ hlt]; exact hg
 have ht : (w.alloc (.cells #[.int .i64 0] 46)).cell? ⟨w.heap.size, 0, none⟩ = some (.int .i64 0) := by simp
 have hf : (w.alloc (.cells #[.int .i64 0] 46)).frozen? ⟨w.heap.size, 0, none⟩ = false := by simp
 have HAS := lh (as_errno k ⟨w.heap.size, 0, none⟩ _ _ hg2 ht hf)
 have HAL := lh (World.grownBy_alloc w (.cells #[.int .i64 0] 46) none)
 clear hg2 ht hf hg
 go_enter Tryz.func16, Tryz.ntmps16
 go_wp2_with fail
 refine HAS.out.mono ?_
 rintro e w2 ⟨rfl, hc, hgr⟩
 have HG := lh (HAL.out.andThen hgr (fun j e => by cases e; exact .inl (Nat.le_refl _)))
 clear hgr
 go_wp2
 go_ret
 exact ⟨rfl, HG.out⟩
end Go.Proofs.YtndfpmboanohcaaGreatDoor
