/- The contracts of layer 2, octets: what each call computes, and what becomes of the cursor. -/
import Derived.Test.YtdbbkdlocmafgaaProg
import Derived.Test.YtdbbkdlocmafgaaMem
namespace Go.Proofs.Ytdbbkdlocmafgaa
open Go.RowKit Go.Proofs.HK
set_option linter.unusedVariables false
set_option linter.unusedSimpArgs false

theorem slU8 : SlT Try.prog 24 5 1 1 := SlT.of (z := .int .u8 0) Try.underlying24 (by kernel_rfl) rfl (by decide)

def failS (er x : Int) : Int := if er = 0 then x else er
def leftS (bs : List UInt8) (p : Nat) (er : Int) : Int := if er = 0 then ((bs.length - p : Nat) : Int) else 0
def numB (bs : List UInt8) (p : Nat) (er n : Int) : Int := if er = 0 then (if fitsS bs.length p n = 0 then bigS bs p n else 0) else 0
def numL (bs : List UInt8) (p : Nat) (er n : Int) : Int := if er = 0 then (if fitsS bs.length p n = 0 then littleS bs p n else 0) else 0
def numP (bs : List UInt8) (p : Nat) (er n : Int) : Nat := if er = 0 ∧ fitsS bs.length p n = 0 then p + n.toNat else p
def numE (bs : List UInt8) (p : Nat) (er n : Int) : Int := if er = 0 then fitsS bs.length p n else er

def byE (bs : List UInt8) (p : Nat) (er n : Int) : Int := if er = 0 then (if n < 0 then 1 else if ((bs.length - p : Nat) : Int) < n then 2 else 0) else er
def byP (bs : List UInt8) (p : Nat) (er n : Int) : Nat := if er = 0 ∧ byE bs p er n = 0 then p + n.toNat else p
def byB (bs : List UInt8) (p : Nat) (er n : Int) : List UInt8 := if er = 0 ∧ byE bs p er n = 0 then (bs.drop p).take n.toNat else []
end Go.Proofs.Ytdbbkdlocmafgaa