/-
  The cells of schedules, places and desks under one name each.
-/
import Derived.Test.YtbfllcfjgpkpaaaGreatPlain
import Derived.Test.YtbfllcfjgpkpaaaGreatSchedWalkA
import Derived.Test.YtbfllcfjgpkpaaaGreatBase
namespace Go.Proofs.YtbfllcfjgpkpaaaGreat
open Go.RowKit
set_option linter.unusedVariables false
def sV (s : SC) : Array Value := #[.int .i64 s.period, .int .i64 s.nth, .int .i64 s.notice, .int .i64 s.settle, .int .i64 s.cutoff]
def pV (z : ZN) (zA : Option Addr) (zc : Nat) (c : CN) (cA : Option Addr) (cc : Nat) : Array Value := #[.string z.name, .int .i64 z.off, .slice zA z.cs.length zc, .string c.name, .bool c.w0, .bool c.w1, .bool c.w2, .bool c.w3, .bool c.w4, .bool c.w5, .bool c.w6, .slice cA c.hs.length cc]
def d0V : Array Value := #[.int .i64 0, .int .i64 0, .int .i64 0, .int .i64 0, .int .i64 0, .nilIface, .string ⟨#[]⟩, .int .i64 0, .slice none 0 0, .bool false, .bool false, .bool false, .bool false, .bool false, .bool false, .bool false, .map none]
def dV (s : SC) (z : ZN) (zA : Option Addr) (zc : Nat) (c : CN) (b : Nat) : Array Value := #[.int .i64 s.period, .int .i64 s.nth, .int .i64 s.notice, .int .i64 s.settle, .int .i64 s.cutoff, .iface (rT s.period) (.agg #[.int .i64 s.nth]), .string z.name, .int .i64 z.off, .slice zA z.cs.length zc, .bool c.w0, .bool c.w1, .bool c.w2, .bool c.w3, .bool c.w4, .bool c.w5, .bool c.w6, .map (some b)]
theorem rowDesk : RowT Tryz.prog 147 17 := ⟨⟨_, Tryz.underlying147, rfl⟩, by kernel_rfl⟩
theorem rowSched : RowT Tryz.prog 28 5 := ⟨⟨_, Tryz.underlying28, rfl⟩, by kernel_rfl⟩
theorem rowPlace : RowT Tryz.prog 37 12 := ⟨⟨_, Tryz.underlying37, rfl⟩, by kernel_rfl⟩
def zV (z : ZN) (zA : Option Addr) (zc : Nat) : Array Value := #[.string z.name, .int .i64 z.off, .slice zA z.cs.length zc]
def cV (c : CN) (cA : Option Addr) (cc : Nat) : Array Value := #[.string c.name, .bool c.w0, .bool c.w1, .bool c.w2, .bool c.w3, .bool c.w4, .bool c.w5, .bool c.w6, .slice cA c.hs.length cc]
theorem rowZone : RowT Tryz.prog 32 3 := ⟨⟨_, Tryz.underlying32, rfl⟩, by kernel_rfl⟩
theorem rowCal : RowT Tryz.prog 35 9 := ⟨⟨_, Tryz.underlying35, rfl⟩, by kernel_rfl⟩
theorem rowS (s : SC) : RowV Tryz.prog 28 (sV s) := ⟨rowSched, by simp [sV, Value.oneCell']⟩
theorem rowP (z : ZN) (zA : Option Addr) (zc : Nat) (c : CN) (cA : Option Addr) (cc : Nat) : RowV Tryz.prog 37 (pV z zA zc c cA cc) := ⟨rowPlace, by simp [pV, Value.oneCell']⟩
theorem rowD0 : RowV Tryz.prog 147 d0V := ⟨rowDesk, by simp [d0V, Value.oneCell']⟩
theorem rowDV (s : SC) (z : ZN) (zA : Option Addr) (zc : Nat) (c : CN) (b : Nat) : RowV Tryz.prog 147 (dV s z zA zc c b) := ⟨rowDesk, by simp [dV, Value.oneCell']⟩
theorem rowZ (z : ZN) (zA : Option Addr) (zc : Nat) : RowV Tryz.prog 32 (zV z zA zc) := ⟨rowZone, by simp [zV, Value.oneCell']⟩
theorem rowC (c : CN) (cA : Option Addr) (cc : Nat) : RowV Tryz.prog 35 (cV c cA cc) := ⟨rowCal, by simp [cV, Value.oneCell']⟩
end Go.Proofs.YtbfllcfjgpkpaaaGreat
