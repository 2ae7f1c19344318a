/- What this text proves: a pile of numbers in memory; what its methods come to, called through an interface. -/
import Derived.Test.YtgpnceaplakemaaHpP
import Derived.Test.YtgpnceaplakemaaOwn
namespace Go.Proofs.Ytgpnceaplakemaa.Hp
open Go Go.RowKit Go.Proofs.Ytgpnceaplakemaa.Base Go.Proofs.Ytgpnceaplakemaa.Own

theorem ints_at (l : List Int) (i : Nat) (h : i < l.length) : (ints l)[i]? = some (.int .i64 (at_ l i)) := by
  rw [at_eq l i h]
  simp [ints, h]

/-! ### The methods behind the interface -/
theorem wrap_nil {P : Program} {w : World} {a : Addr} {ts : Array TypeId} {t : TypeId} {s m : String} : (Builtin.ssaWrapNilChk_ ts t #[.pointer (some a), strVal s, strVal m]).run P w = .ok (.pointer (some a)) w := rfl
theorem method_val {P : Program} {w : World} {k : Nat} {T e : TypeId} {a : Addr} {name : String} {f : FuncId} (hm : (P.info? T).map (fun i => (i.methods.find? (·.name == name)).map fun m => (m.path, m.func)) = some (some (#[], some (f, false)))) (hu : P.underlying T = some (.pointer e)) :
    (method (k + 1) T (.pointer (some a)) name).run P w = ((loadVar e a).run P w).andThen fun v w' => .ok (f, v) w' := by
  obtain ⟨i, hi, h2⟩ := Option.map_eq_some_iff.1 hm
  obtain ⟨m, hf, h3⟩ := Option.map_eq_some_iff.1 h2
  have h4 : m.path = #[] := congrArg Prod.fst h3
  have h5 : m.func = some (f, false) := congrArg Prod.snd h3
  unfold method
  simp [Sem.run_bind, typeInfo, hi, hf, h4, h5, follow, receiverAt, run_underlying hu, Place.get, wrap_nil, asAddr]
theorem method_ptr {P : Program} {w : World} {k : Nat} {T e : TypeId} {a : Addr} {name : String} {f : FuncId} (hm : (P.info? T).map (fun i => (i.methods.find? (·.name == name)).map fun m => (m.path, m.func)) = some (some (#[], some (f, true)))) (hu : P.underlying T = some (.pointer e)) :
    (method (k + 1) T (.pointer (some a)) name).run P w = .ok (f, .pointer (some a)) w := by
  obtain ⟨i, hi, h2⟩ := Option.map_eq_some_iff.1 hm
  obtain ⟨m, hf, h3⟩ := Option.map_eq_some_iff.1 h2
  have h4 : m.path = #[] := congrArg Prod.fst h3
  have h5 : m.func = some (f, true) := congrArg Prod.snd h3
  unfold method
  simp [Sem.run_bind, typeInfo, hi, hf, h4, h5, follow, receiverAt, run_underlying hu, Place.get]
theorem info_Len : (Try.prog.info? 63).map (fun i => (i.methods.find? (·.name == "Len")).map fun m => (m.path, m.func)) = some (some (#[], some (56, false))) := by kernel_rfl
theorem info_Less : (Try.prog.info? 63).map (fun i => (i.methods.find? (·.name == "Less")).map fun m => (m.path, m.func)) = some (some (#[], some (57, false))) := by kernel_rfl
theorem info_Swap : (Try.prog.info? 63).map (fun i => (i.methods.find? (·.name == "Swap")).map fun m => (m.path, m.func)) = some (some (#[], some (58, false))) := by kernel_rfl
theorem info_least : (Try.prog.info? 63).map (fun i => (i.methods.find? (·.name == "umbel/queue.least")).map fun m => (m.path, m.func)) = some (some (#[], some (60, false))) := by kernel_rfl
theorem info_all : (Try.prog.info? 63).map (fun i => (i.methods.find? (·.name == "umbel/queue.all")).map fun m => (m.path, m.func)) = some (some (#[], some (59, false))) := by kernel_rfl
theorem info_Push : (Try.prog.info? 63).map (fun i => (i.methods.find? (·.name == "Push")).map fun m => (m.path, m.func)) = some (some (#[], some (83, true))) := by kernel_rfl
theorem info_Pop : (Try.prog.info? 63).map (fun i => (i.methods.find? (·.name == "Pop")).map fun m => (m.path, m.func)) = some (some (#[], some (82, true))) := by kernel_rfl
theorem load_pile (p : Nat) (A : Option Addr) (n c : Nat) (w : World) (h : w.cell? ⟨p, 0, none⟩ = some (.slice A n c)) : (loadVar 60 ⟨p, 0, none⟩).run Try.prog w = .ok (.slice A n c) w := by
  go_simp
theorem len_calls (A : Option Addr) (n c : Nat) (w : World) : Calls Try.prog 56 #[.slice A n c] w fun e w' => e = .returned (.int .i64 n) ∧ w = w' := by
  go_enter Try.func56, Try.ntmps56
  go_wp2
  go_ret
  exact ⟨rfl, rfl⟩
end Go.Proofs.Ytgpnceaplakemaa.Hp
