/- sync.Mutex of this program: what the contracts of Lock and Unlock ask -/
import Derived.Test.YtjiljpddkfcdbaaGreatDoorProg
import Derived.Conc.MuLone
namespace Go.Proofs.YtjiljpddkfcdbaaGreatDoor.PLx
open Go.Conc.Locks
def muLink : MuLink := { lock := 73, unlock := 74, ilock := 79, iunlock := 80, lockSlow := 90, unlockSlow := 93, disable := 86, enable := 88, acquire := 89, relMerge := 91, cas32 := 87, add32 := 92, tMutex := 86, tIMutex := 84, tPMutex := 132, tPIMutex := 146, tPI32 := 148, tUP := 105, tNoCopy := 78, tU32 := 80 }
set_option maxRecDepth 100000 in
theorem muLib : MuLib Tryz.prog muLink where
  f_lock := Tryz.func73
  f_unlock := Tryz.func74
  f_ilock := Tryz.func79
  f_iunlock := Tryz.func80
  f_disable := Tryz.func86
  f_enable := Tryz.func88
  f_acquire := Tryz.func89
  f_relMerge := Tryz.func91
  f_cas32 := Tryz.func87
  f_add32 := Tryz.func92
  underlying_tIMutex := by first | exact Tryz.underlying84 | (intro w; exact Tryz.underlying84 w) | kernel_rfl | (intro w; kernel_rfl) | (intro w; rfl)
  runUnderlying_tIMutex := by first | exact Tryz.runUnderlying84 | (intro w; exact Tryz.runUnderlying84 w) | kernel_rfl | (intro w; kernel_rfl) | (intro w; rfl)
  sizeOf_tIMutex := by first | exact Tryz.sizeOf84 | (intro w; exact Tryz.sizeOf84 w) | kernel_rfl | (intro w; kernel_rfl) | (intro w; rfl)
  isAgg_tIMutex := by first | exact Tryz.isAgg84 | (intro w; exact Tryz.isAgg84 w) | kernel_rfl | (intro w; kernel_rfl) | (intro w; rfl)
  zeroValue_tIMutex := by first | exact Tryz.zeroValue84 | (intro w; exact Tryz.zeroValue84 w) | kernel_rfl | (intro w; kernel_rfl) | (intro w; rfl)
  underlying_tMutex := by first | exact Tryz.underlying86 | (intro w; exact Tryz.underlying86 w) | kernel_rfl | (intro w; kernel_rfl) | (intro w; rfl)
  runUnderlying_tMutex := by first | exact Tryz.runUnderlying86 | (intro w; exact Tryz.runUnderlying86 w) | kernel_rfl | (intro w; kernel_rfl) | (intro w; rfl)
  sizeOf_tMutex := by first | exact Tryz.sizeOf86 | (intro w; exact Tryz.sizeOf86 w) | kernel_rfl | (intro w; kernel_rfl) | (intro w; rfl)
  isAgg_tMutex := by first | exact Tryz.isAgg86 | (intro w; exact Tryz.isAgg86 w) | kernel_rfl | (intro w; kernel_rfl) | (intro w; rfl)
  zeroValue_tMutex := by first | exact Tryz.zeroValue86 | (intro w; exact Tryz.zeroValue86 w) | kernel_rfl | (intro w; kernel_rfl) | (intro w; rfl)
  underlying_tPMutex := by first | exact Tryz.underlying132 | (intro w; exact Tryz.underlying132 w) | kernel_rfl | (intro w; kernel_rfl) | (intro w; rfl)
  runUnderlying_tPMutex := by first | exact Tryz.runUnderlying132 | (intro w; exact Tryz.runUnderlying132 w) | kernel_rfl | (intro w; kernel_rfl) | (intro w; rfl)
  sizeOf_tPMutex := by first | exact Tryz.sizeOf132 | (intro w; exact Tryz.sizeOf132 w) | kernel_rfl | (intro w; kernel_rfl) | (intro w; rfl)
  isAgg_tPMutex := by first | exact Tryz.isAgg132 | (intro w; exact Tryz.isAgg132 w) | kernel_rfl | (intro w; kernel_rfl) | (intro w; rfl)
  zeroValue_tPMutex := by first | exact Tryz.zeroValue132 | (intro w; exact Tryz.zeroValue132 w) | kernel_rfl | (intro w; kernel_rfl) | (intro w; rfl)
  underlying_tPIMutex := by first | exact Tryz.underlying146 | (intro w; exact Tryz.underlying146 w) | kernel_rfl | (intro w; kernel_rfl) | (intro w; rfl)
  runUnderlying_tPIMutex := by first | exact Tryz.runUnderlying146 | (intro w; exact Tryz.runUnderlying146 w) | kernel_rfl | (intro w; kernel_rfl) | (intro w; rfl)
  sizeOf_tPIMutex := by first | exact Tryz.sizeOf146 | (intro w; exact Tryz.sizeOf146 w) | kernel_rfl | (intro w; kernel_rfl) | (intro w; rfl)
  isAgg_tPIMutex := by first | exact Tryz.isAgg146 | (intro w; exact Tryz.isAgg146 w) | kernel_rfl | (intro w; kernel_rfl) | (intro w; rfl)
  zeroValue_tPIMutex := by first | exact Tryz.zeroValue146 | (intro w; exact Tryz.zeroValue146 w) | kernel_rfl | (intro w; kernel_rfl) | (intro w; rfl)
  underlying_tPI32 := by first | exact Tryz.underlying148 | (intro w; exact Tryz.underlying148 w) | kernel_rfl | (intro w; kernel_rfl) | (intro w; rfl)
  runUnderlying_tPI32 := by first | exact Tryz.runUnderlying148 | (intro w; exact Tryz.runUnderlying148 w) | kernel_rfl | (intro w; kernel_rfl) | (intro w; rfl)
  sizeOf_tPI32 := by first | exact Tryz.sizeOf148 | (intro w; exact Tryz.sizeOf148 w) | kernel_rfl | (intro w; kernel_rfl) | (intro w; rfl)
  isAgg_tPI32 := by first | exact Tryz.isAgg148 | (intro w; exact Tryz.isAgg148 w) | kernel_rfl | (intro w; kernel_rfl) | (intro w; rfl)
  zeroValue_tPI32 := by first | exact Tryz.zeroValue148 | (intro w; exact Tryz.zeroValue148 w) | kernel_rfl | (intro w; kernel_rfl) | (intro w; rfl)
  underlying_tUP := by first | exact Tryz.underlying105 | (intro w; exact Tryz.underlying105 w) | kernel_rfl | (intro w; kernel_rfl) | (intro w; rfl)
  runUnderlying_tUP := by first | exact Tryz.runUnderlying105 | (intro w; exact Tryz.runUnderlying105 w) | kernel_rfl | (intro w; kernel_rfl) | (intro w; rfl)
  sizeOf_tUP := by first | exact Tryz.sizeOf105 | (intro w; exact Tryz.sizeOf105 w) | kernel_rfl | (intro w; kernel_rfl) | (intro w; rfl)
  isAgg_tUP := by first | exact Tryz.isAgg105 | (intro w; exact Tryz.isAgg105 w) | kernel_rfl | (intro w; kernel_rfl) | (intro w; rfl)
  zeroValue_tUP := by first | exact Tryz.zeroValue105 | (intro w; exact Tryz.zeroValue105 w) | kernel_rfl | (intro w; kernel_rfl) | (intro w; rfl)
  underlying_tNoCopy := by first | exact Tryz.underlying78 | (intro w; exact Tryz.underlying78 w) | kernel_rfl | (intro w; kernel_rfl) | (intro w; rfl)
  runUnderlying_tNoCopy := by first | exact Tryz.runUnderlying78 | (intro w; exact Tryz.runUnderlying78 w) | kernel_rfl | (intro w; kernel_rfl) | (intro w; rfl)
  sizeOf_tNoCopy := by first | exact Tryz.sizeOf78 | (intro w; exact Tryz.sizeOf78 w) | kernel_rfl | (intro w; kernel_rfl) | (intro w; rfl)
  isAgg_tNoCopy := by first | exact Tryz.isAgg78 | (intro w; exact Tryz.isAgg78 w) | kernel_rfl | (intro w; kernel_rfl) | (intro w; rfl)
  zeroValue_tNoCopy := by first | exact Tryz.zeroValue78 | (intro w; exact Tryz.zeroValue78 w) | kernel_rfl | (intro w; kernel_rfl) | (intro w; rfl)
  underlying_t21 := by first | exact Tryz.underlying21 | (intro w; exact Tryz.underlying21 w) | kernel_rfl | (intro w; kernel_rfl) | (intro w; rfl)
  runUnderlying_t21 := by first | exact Tryz.runUnderlying21 | (intro w; exact Tryz.runUnderlying21 w) | kernel_rfl | (intro w; kernel_rfl) | (intro w; rfl)
  sizeOf_t21 := by first | exact Tryz.sizeOf21 | (intro w; exact Tryz.sizeOf21 w) | kernel_rfl | (intro w; kernel_rfl) | (intro w; rfl)
  isAgg_t21 := by first | exact Tryz.isAgg21 | (intro w; exact Tryz.isAgg21 w) | kernel_rfl | (intro w; kernel_rfl) | (intro w; rfl)
  zeroValue_t21 := by first | exact Tryz.zeroValue21 | (intro w; exact Tryz.zeroValue21 w) | kernel_rfl | (intro w; kernel_rfl) | (intro w; rfl)
  room_tIMutex := by kernel_rfl
end Go.Proofs.YtjiljpddkfcdbaaGreatDoor.PLx
