/-
  DERIVED: THE SHELF's CONTRACTS AT THIS DUMP, IN PLAIN WORDS (tools/lay-plain.mjs out of 'TryShelf.lean', which tools/lay-shelf.mjs wrote): THE SAME DECLARATIONS UNDER THE SAME NAMES: 'import', 'namespace', 'open', 'def', 'theorem' AND NOTHING ELSE: no command of the shelf's: FOR A HAND-IN. Each laying: the table of numbers ('.._ren') and one theorem, a field a fact of the dump's own or the kernel's comparison; each contract: ONE APPLICATION.
-/
import Derived.Ground.SlsfProg
import Derived.Shelf.SlSortCmp.WholeK
import Derived.Test.YtnnkoeknejeieaaProg
namespace Go.Proofs
open Go.Shelf
def Try.laysSlF06_f61_ren : Go.Shelf.Ren := ⟨fun | 6 => 61 | 15 => 77 | 14 => 76 | 28 => 90 | 29 => 91 | 20 => 82 | 21 => 83 | 22 => 84 | 23 => 85 | 24 => 86 | 25 => 87 | 26 => 88 | 27 => 89 | 46 => 94 | 47 => 95 | 48 => 96 | 49 => 97 | 50 => 98 | 57 => 99 | n => n, fun | 22 => 27 | 24 => 71 | 25 => 91 | 3 => 3 | 39 => 103 | 0 => 0 | 53 => 115 | 55 => 117 | 4 => 4 | 46 => 108 | 45 => 107 | 50 => 112 | 5 => 5 | 9 => 9 | 66 => 119 | 70 => 123 | 76 => 125 | 77 => 126 | n => n, fun | n => n⟩
theorem Try.laysSlF06_f61 : Go.Proofs.SlLaysF0.n6 Try.prog Try.laysSlF06_f61_ren := {
  mixed := by kernel_rfl
  f6 := ⟨Try.f61.name, by decide, Try.func61.trans (congrArg some (by kernel_rfl))⟩
  f14 := ⟨Try.f76.name, by decide, Try.func76.trans (congrArg some (by kernel_rfl))⟩
  f15 := Try.func77.trans (congrArg some (by kernel_rfl))
  f20 := ⟨Try.f82.name, by decide, Try.func82.trans (congrArg some (by kernel_rfl))⟩
  f21 := ⟨Try.f83.name, by decide, Try.func83.trans (congrArg some (by kernel_rfl))⟩
  f22 := ⟨Try.f84.name, by decide, Try.func84.trans (congrArg some (by kernel_rfl))⟩
  f23 := ⟨Try.f85.name, by decide, Try.func85.trans (congrArg some (by kernel_rfl))⟩
  f24 := ⟨Try.f86.name, by decide, Try.func86.trans (congrArg some (by kernel_rfl))⟩
  f25 := ⟨Try.f87.name, by decide, Try.func87.trans (congrArg some (by kernel_rfl))⟩
  f26 := ⟨Try.f88.name, by decide, Try.func88.trans (congrArg some (by kernel_rfl))⟩
  f27 := ⟨Try.f89.name, by decide, Try.func89.trans (congrArg some (by kernel_rfl))⟩
  f28 := Try.func90.trans (congrArg some (by kernel_rfl))
  f29 := Try.func91.trans (congrArg some (by kernel_rfl))
  f46 := ⟨Try.f94.name, by decide, Try.func94.trans (congrArg some (by kernel_rfl))⟩
  f47 := Try.func95.trans (congrArg some (by kernel_rfl))
  f48 := Try.func96.trans (congrArg some (by kernel_rfl))
  f49 := ⟨Try.f97.name, by decide, Try.func97.trans (congrArg some (by kernel_rfl))⟩
  f50 := ⟨Try.f98.name, by decide, Try.func98.trans (congrArg some (by kernel_rfl))⟩
  f57 := ⟨Try.f99.name, by decide, Try.func99.trans (congrArg some (by kernel_rfl))⟩
  t0 := Try.underlying0
  a0 := Try.isAgg0
  z0 := Try.sizeOf0
  v0 := Try.zeroValue0
  t3 := Try.underlying3
  a3 := Try.isAgg3
  z3 := Try.sizeOf3
  v3 := Try.zeroValue3
  t4 := Try.underlying4
  a4 := Try.isAgg4
  z4 := Try.sizeOf4
  v4 := Try.zeroValue4
  t5 := Try.underlying5
  a5 := Try.isAgg5
  z5 := Try.sizeOf5
  v5 := Try.zeroValue5
  t9 := Try.underlying9
  a9 := Try.isAgg9
  z9 := Try.sizeOf9
  v9 := Try.zeroValue9
  t22 := Try.underlying27
  a22 := Try.isAgg27
  z22 := Try.sizeOf27
  v22 := Try.zeroValue27
  t25 := Try.underlying91
  a25 := Try.isAgg91
  z25 := Try.sizeOf91
  v25 := Try.zeroValue91
  t39 := Try.underlying103
  a39 := Try.isAgg103
  z39 := Try.sizeOf103
  v39 := Try.zeroValue103
  t45 := Try.underlying107
  a45 := Try.isAgg107
  z45 := Try.sizeOf107
  v45 := Try.zeroValue107
  t46 := Try.underlying108
  a46 := Try.isAgg108
  z46 := Try.sizeOf108
  v46 := Try.zeroValue108
  t50 := Try.underlying112
  a50 := Try.isAgg112
  z50 := Try.sizeOf112
  v50 := Try.zeroValue112
  t53 := Try.underlying115
  a53 := Try.isAgg115
  z53 := Try.sizeOf115
  v53 := Try.zeroValue115
  t55 := Try.underlying117
  a55 := Try.isAgg117
  z55 := Try.sizeOf117
  v55 := Try.zeroValue117
  t66 := Try.underlying119
  a66 := Try.isAgg119
  z66 := Try.sizeOf119
  v66 := Try.zeroValue119
  t70 := Try.underlying123
  a70 := Try.isAgg123
  z70 := Try.sizeOf123
  v70 := Try.zeroValue123
  t76 := Try.underlying125
  a76 := Try.isAgg125
  z76 := Try.sizeOf125
  v76 := Try.zeroValue125
  t77 := Try.underlying126
  a77 := Try.isAgg126
  z77 := Try.sizeOf126
  v77 := Try.zeroValue126 }
open Go.RowKit Go.Lib Go.Sort in
/-- **slices.SortFunc: WHAT THE ROW HOLDS, TO THE ELEMENT.** (LAID AT THE INSTANCE 'slices.SortFunc[[]loop.example/g00864/impl.Wire,loop.example/g00864/impl.Wire]': no walk: one application.) -/
theorem Try.slices_SortFunc_eq {α : Type} [Inhabited α] (k : Nat) (aE : ∀ w, (isAgg 71).run Try.prog w = .ok true w) (zE : ∀ w, (Go.sizeOf 71).run Try.prog w = .ok k w) (enc : α → List Value) (hk : ∀ x, (enc x).length = k) (h1 : ∀ x, ∀ v ∈ enc x, v.oneCell' = true) (cf : α → α → Int) (hO : SWO (ltOf cf)) (g : Nat) (cb : Array Value) (blk off cap : Nat) (d : Array α) (w : World) (eg : ∀ args w, (callFunc g args).run Try.prog w = .ok (.enter g args) w) (hcmp : CmpLays Try.prog g cb enc k cf blk off d.size w) (hH : HoldsK enc k w blk off d) (hblk : blk < w.heap.size) (hsz : d.size < 4611686018427387904) :
    Calls Try.prog 61 #[.slice (some ⟨blk, off, none⟩) d.size cap, .func (.func g) #[] cb] w fun e w' =>
      e = .returned (.tuple #[]) ∧ ∃ n os, w' = sortWorldK enc k w blk off n (pdq (ltOf cf) d 0 d.size (Lib.bitLen d.size) true true) os := AnyQ.slices_SortFunc_eq Try.laysSlF06_f61 k aE zE enc hk h1 cf hO g cb blk off cap d w eg hcmp hH hblk hsz
open Go.RowKit Go.Lib Go.Sort in
/-- **slices.SortFunc, IN THE DOCUMENTATION's OWN TERMS: A PERMUTATION OF WHAT THE ROW HELD, SORTED BY 'cmp(a, b) < 0'.** Which of two equals comes first is left open ("The sort is not guaranteed to be stable"). (LAID AT THE INSTANCE 'slices.SortFunc[[]loop.example/g00864/impl.Wire,loop.example/g00864/impl.Wire]': no walk: one application.) -/
theorem Try.slices_SortFunc {α : Type} [Inhabited α] (k : Nat) (aE : ∀ w, (isAgg 71).run Try.prog w = .ok true w) (zE : ∀ w, (Go.sizeOf 71).run Try.prog w = .ok k w) (enc : α → List Value) (hk : ∀ x, (enc x).length = k) (h1 : ∀ x, ∀ v ∈ enc x, v.oneCell' = true) (cf : α → α → Int) (hO : SWO (ltOf cf)) (g : Nat) (cb : Array Value) (blk off cap : Nat) (d : Array α) (w : World) (eg : ∀ args w, (callFunc g args).run Try.prog w = .ok (.enter g args) w) (hcmp : CmpLays Try.prog g cb enc k cf blk off d.size w) (hH : HoldsK enc k w blk off d) (hblk : blk < w.heap.size) (hsz : d.size < 4611686018427387904) :
    Calls Try.prog 61 #[.slice (some ⟨blk, off, none⟩) d.size cap, .func (.func g) #[] cb] w fun e w' =>
      e = .returned (.tuple #[]) ∧ ∃ d' n os, PermIn 0 d.size d d' ∧ SortedIn (ltOf cf) 0 d.size d' ∧ w' = sortWorldK enc k w blk off n d' os := AnyQ.slices_SortFunc Try.laysSlF06_f61 k aE zE enc hk h1 cf hO g cb blk off cap d w eg hcmp hH hblk hsz
end Go.Proofs
