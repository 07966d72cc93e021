
/- The ID's row while Sum writes it. -/

import Derived.Test.YtkiggfahcakdeaaShaTake

namespace Go.Proofs.Ytkiggfahcakdeaa

open Go.RowKit

/-- the ID while it is written -/
def outPart (V : St8) (k : Nat) : List UInt8 := (outB V).take (4 * k) ++ List.replicate (32 - 4 * k) 0
theorem out_step (V : St8) (k : Nat) (hk : k < 8) (x : W32) (hx : V.list[k]'hk = x) :
    ((((outPart V k).set (4 * k) (UInt8.ofNat (x >>> 24).toNat)).set (4 * k + 1) (UInt8.ofNat (x >>> 16).toNat)).set (4 * k + 2) (UInt8.ofNat (x >>> 8).toNat)).set (4 * k + 3) (UInt8.ofNat x.toNat) = outPart V (k + 1) := by
  subst hx
  match k, hk with
  | 0, _ => rfl
  | 1, _ => rfl
  | 2, _ => rfl
  | 3, _ => rfl
  | 4, _ => rfl
  | 5, _ => rfl
  | 6, _ => rfl
  | 7, _ => rfl
theorem out_b0 (x : W32) : (x.toNat : Int) / (16777216 : Int) = ((UInt8.ofNat (x >>> 24).toNat).toNat : Int) := by
  have := x.isLt
  rw [UInt8.toNat_ofNat', BitVec.toNat_ushiftRight, Nat.shiftRight_eq_div_pow]; omega
theorem out_b1 (x : W32) : (x.toNat : Int) / (65536 : Int) % (256 : Int) = ((UInt8.ofNat (x >>> 16).toNat).toNat : Int) := by
  rw [UInt8.toNat_ofNat', BitVec.toNat_ushiftRight, Nat.shiftRight_eq_div_pow]; omega
theorem out_b2 (x : W32) : (x.toNat : Int) / (256 : Int) % (256 : Int) = ((UInt8.ofNat (x >>> 8).toNat).toNat : Int) := by
  rw [UInt8.toNat_ofNat', BitVec.toNat_ushiftRight, Nat.shiftRight_eq_div_pow]; omega
theorem out_b3 (x : W32) : (x.toNat : Int) % (256 : Int) = ((UInt8.ofNat x.toNat).toNat : Int) := by
  rw [UInt8.toNat_ofNat']; omega
end Go.Proofs.Ytkiggfahcakdeaa
