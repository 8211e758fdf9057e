/-
The globals that the program looks at, as the card lays them.
Conditions: none.
-/
import Derived.Test.YtgamdeginkngaaaGreatDoorRunN
set_option linter.unusedVariables false
set_option linter.unusedSimpArgs false
namespace Go
namespace Abs
noncomputable def rowG (l : List Value) : AObj := .row (storeL l 0 .nil fun t => t) l.length UNK true true
noncomputable def u32G (l : List Nat) : List Value := l.map fun n => .int .u32 (.ofNat n)
noncomputable def initG : List Nat := [1779033703, 3144134277, 1013904242, 2773480762, 1359893119, 2600822924, 528734635, 1541459225]
noncomputable def roundsG : List Nat := [1116352408, 1899447441, 3049323471, 3921009573, 961987163, 1508970993, 2453635748, 2870763221, 3624381080, 310598401, 607225278, 1426881987, 1925078388, 2162078206, 2614888103, 3248222580, 3835390401, 4022224774, 264347078, 604807628, 770255983, 1249150122, 1555081692, 1996064986, 2554220882, 2821834349, 2952996808, 3210313671, 3336571891, 3584528711, 113926993, 338241895, 666307205, 773529912, 1294757372, 1396182291, 1695183700, 1986661051, 2177026350, 2456956037, 2730485921, 2820302411, 3259730800, 3345764771, 3516065817, 3600352804, 4094571909, 275423344, 430227734, 506948616, 659060556, 883997877, 958139571, 1322822218, 1537002063, 1747873779, 1955562222, 2024104815, 2227730452, 2361852424, 2428436474, 2756734187, 3204031479, 3329325298]
noncomputable def pow10G : List Value := (List.range 20).map fun i => .int .u64 (.ofNat (10 ^ i))
noncomputable def hpG : Hp := T.setK (path 0) .nil (some (rowG (u32G initG))) fun t => T.setK (path 2) t (some (rowG (u32G roundsG))) fun t => T.setK (path 3) t (some (rowG pow10G)) fun t =>
  T.setK (path 4) t (some (rowG [.iface 270 (ptrV 11 0)])) fun t => T.setK (path 5) t (some (rowG [.iface 270 (ptrV 12 0)])) fun t => ⟨t, 16, 16, []⟩
/-- a memory whose first blocks are these -/
structure Base (h : Hp) : Prop where
  next : 16 ≤ h.next
  at_ : ∀ b, b < 16 → h.at b = hpG.at b
theorem Base.keep {lim : Nat} {h H : Hp} (hb : Base h) (hk : Keeps lim h H) (hl : 16 ≤ lim) : Base H := ⟨Nat.le_trans hb.next hk.next, fun b h => (hk.at_ b (by omega)).trans (hb.at_ b h)⟩
theorem Base.new {h : Hp} (hb : Base h) (o : AObj) : Base (h.new o) := hb.keep (Keeps.new o (Nat.le_refl _)) hb.next
theorem Base.sb {h : Hp} (hb : Base h) (n : Nat) (l : List Nat) : Base (setBase h n l) := ⟨hb.next, hb.at_⟩
end Abs
end Go
