/-
  Frames, in plain lists: what the printed functions of the package ip tell.
-/
import Derived.Test.YtlaanmkangikbaaPIpx7
import Derived.Test.YtlaanmkangikbaaSumL
import Derived.Lib.Bytes
import Derived.Laws.BitsAllLaws
namespace Go.Proofs.Ytlaanmkangikbaa
open Go.RowKit Go.Proofs.YtlaanmkangikbaaW.PrintWords Go.Proofs.YtlaanmkangikbaaW.PrintLast Go.Proofs.YtlaanmkangikbaaW.PrintMore Go.Proofs.Ytlaanmkangikbaa.PIp

/-- A row of bytes. -/
def Byt (l : List Int) : Prop := ∀ z ∈ l, 0 ≤ z ∧ z < 256
theorem Byt.append {a b : List Int} (ha : Byt a) (hb : Byt b) : Byt (a ++ b) := fun z h => by rcases List.mem_append.1 h with h | h; exact ha z h; exact hb z h
theorem Byt.take {a : List Int} (ha : Byt a) (n : Nat) : Byt (a.take n) := fun z h => ha z (List.mem_of_mem_take h)
theorem Byt.drop {a : List Int} (ha : Byt a) (n : Nat) : Byt (a.drop n) := fun z h => ha z (List.mem_of_mem_drop h)
theorem Byt.getD {a : List Int} (ha : Byt a) (i : Nat) : 0 ≤ a.getD i 0 ∧ a.getD i 0 < 256 := get_byte ha i
theorem Byt.rd {a : List Int} (ha : Byt a) (i : Int) : 0 ≤ rd a i ∧ rd a i < 256 := get_byte ha i.toNat

/-- The bytes of an address. -/
def abytes (a : Int) : List Int := [a / 16777216 % 256, a / 65536 % 256, a / 256 % 256, a % 256]
/-- A header's bytes ahead of its sum. -/
def raw (s d p t i : Int) (al : Bool) (all : Int) : List Int :=
  [if al then 70 else 69, 0] ++ ([all / 256 % 256, all % 256] ++ ([i / 256 % 256, i % 256] ++ ([0, 0, t, p, 0, 0] ++ (abytes s ++ (abytes d ++ (if al then [148, 4, 0, 0] else []))))))
def hlen (al : Bool) : Nat := if al then 24 else 20
def hd (s d p t i : Int) (al : Bool) (all : Int) : List Int := putOf (raw s d p t i al all) 10
/-- A header that may be. -/
def HOk (s d p t i : Int) : Prop := (0 ≤ s ∧ s < 4294967296) ∧ (0 ≤ d ∧ d < 4294967296) ∧ (0 ≤ p ∧ p < 256) ∧ (0 ≤ t ∧ t < 256) ∧ (0 ≤ i ∧ i < 65536)

theorem part_some {a : Int} (i : Int) (h0 : 0 ≤ i) (h1 : i < 4) : addr_part.f a i = some ((a / 2 ^ (24 - 8 * i).toNat) % 256) := by
  unfold addr_part.f
  rw [wr64 (i := 8 * i) (by omega) (by omega), wr64 (i := 24 - 8 * i) (by omega) (by omega), if_pos (by omega)]
  unfold shr
  rw [show min (24 - 8 * i).toNat IntKind.u32.bits = (24 - 8 * i).toNat from Nat.min_eq_left (by simp [IntKind.bits]; omega)]
theorem addr_bytes_some {a : Int} (k : Nat) : addr_Bytes.f (k + 5) a = some (abytes a) := by
  unfold addr_Bytes.f
  rw [if_pos (by omega), Option.bind_some]
  simp only [addr_Bytes.l0, List.length_replicate, List.length_set]
  rw [part_some 0 (by omega) (by omega)]
  have e1 : wrap64 ((0 : Int) + 1) = 1 := (wr64 (by omega) (by omega)).trans (by omega)
  have e2 : wrap64 ((1 : Int) + 1) = 2 := (wr64 (by omega) (by omega)).trans (by omega)
  have e3 : wrap64 ((2 : Int) + 1) = 3 := (wr64 (by omega) (by omega)).trans (by omega)
  have e4 : wrap64 ((3 : Int) + 1) = 4 := (wr64 (by omega) (by omega)).trans (by omega)
  simp only [e1, e2, e3, e4]
  rw [part_some 1 (by omega) (by omega), part_some 2 (by omega) (by omega), part_some 3 (by omega) (by omega)]
  simp [abytes]
theorem abytes_byt (a : Int) : Byt (abytes a) := by
  intro z h
  simp only [abytes, List.mem_cons, List.not_mem_nil, or_false] at h
  rcases h with rfl | rfl | rfl | rfl <;> omega

theorem or32 {x y : Int} (hx : 0 ≤ x) (hx1 : x < 16777216) (hy : 0 ≤ y) (hy1 : y < 256) : Go.bits .or .u32 ((x * 256) % 4294967296) (y % 4294967296) = x * 256 + y := by
  rw [show (x * 256) % 4294967296 = x * 256 from by omega, show y % 4294967296 = y from by omega]
  exact bits_join .u32 32 (by decide) (fun n h0 h1 => by rw [IntKind.wrap_u32]; omega) 8 _ _ (by omega) (by omega) (by omega) hy (by omega) (by omega)
theorem or16 {x y : Int} (hx : 0 ≤ x) (hx1 : x < 256) (hy : 0 ≤ y) (hy1 : y < 256) : Go.bits .or .u16 (IntKind.u16.wrap ((IntKind.u16.wrap x) * 256)) (IntKind.u16.wrap y) = x * 256 + y := by
  simp only [IntKind.wrap_u16]
  rw [show (x % 65536 * 256) % 65536 = x * 256 from by omega, show y % 65536 = y from by omega]
  exact bits_join .u16 16 (by decide) (fun n h0 h1 => by rw [IntKind.wrap_u16]; omega) 8 _ _ (by omega) (by omega) (by omega) hy (by omega) (by omega)
theorem or64 {x y : Int} (hx : 0 ≤ x) (hx1 : x < 256) (hy : 0 ≤ y) (hy1 : y < 256) : Go.bits .or .i64 (wrap64 ((wrap64 x) * 256)) (wrap64 y) = x * 256 + y := by
  rw [wr64 (i := x) (by omega) (by omega), wr64 (i := y) (by omega) (by omega), wr64 (i := x * 256) (by omega) (by omega)]
  exact bits_join .i64 32 (by decide) (fun n h0 h1 => by rw [IntKind.wrap_i64]; omega) 8 _ _ (by omega) (by omega) (by omega) hy (by omega) (by omega)

theorem addr_of_some {a b c d : Int} (ha : 0 ≤ a ∧ a < 256) (hb : 0 ≤ b ∧ b < 256) (hc : 0 ≤ c ∧ c < 256) (hd : 0 ≤ d ∧ d < 256) (k : Nat) : addr_Of.f (k + 5) [a, b, c, d] = some (a * 16777216 + b * 65536 + c * 256 + d, 0) := by
  unfold addr_Of.f
  simp only [List.length_cons, List.length_nil]
  rw [if_neg (by omega), if_neg (by omega)]
  have e1 : wrap64 ((0 : Int) + 1) = 1 := (wr64 (by omega) (by omega)).trans (by omega)
  have e2 : wrap64 ((1 : Int) + 1) = 2 := (wr64 (by omega) (by omega)).trans (by omega)
  have e3 : wrap64 ((2 : Int) + 1) = 3 := (wr64 (by omega) (by omega)).trans (by omega)
  have e4 : wrap64 ((3 : Int) + 1) = 4 := (wr64 (by omega) (by omega)).trans (by omega)
  simp only [addr_Of.l0, List.length_cons, List.length_nil, e1, e2, e3, e4]
  rw [show rd [a, b, c, d] 0 = a from rfl, show rd [a, b, c, d] 1 = b from rfl, show rd [a, b, c, d] 2 = c from rfl, show rd [a, b, c, d] 3 = d from rfl]
  rw [or32 (by omega) (by omega) ha.1 ha.2, or32 (by omega) (by omega) hb.1 hb.2, or32 (by omega) (by omega) hc.1 hc.2, or32 (by omega) (by omega) hd.1 hd.2]
  simp
  omega

theorem raw_len (s d p t i : Int) (al : Bool) (all : Int) : (raw s d p t i al all).length = hlen al := by cases al <;> rfl
theorem raw_byt {s d p t i : Int} (h : HOk s d p t i) (al : Bool) (all : Int) : Byt (raw s d p t i al all) := by
  obtain ⟨h1, h2, h3, h4, h5⟩ := h
  unfold raw
  refine Byt.append ?_ (Byt.append ?_ (Byt.append ?_ (Byt.append ?_ (Byt.append (abytes_byt _) (Byt.append (abytes_byt _) ?_)))))
  · intro z hz; cases al <;> simp at hz <;> omega
  · intro z hz; simp at hz; omega
  · intro z hz; simp at hz; omega
  · intro z hz; simp at hz; omega
  · intro z hz; cases al <;> simp at hz; omega
theorem hd_len (s d p t i : Int) (al : Bool) (all : Int) : (hd s d p t i al all).length = hlen al := by rw [hd, putOf_len, raw_len]
theorem hd_byt {s d p t i : Int} (h : HOk s d p t i) (al : Bool) (all : Int) : Byt (hd s d p t i al all) := putOf_byte _ _ (raw_byt h al all)

theorem head_some {s d p t i : Int} (h : HOk s d p t i) (al : Bool) (all : Int) (k : Nat) : ip_head.f (k + 6) s d p t i al all = some (hd s d p t i al all) := by
  have hi := h.2.2.2.2
  have hj : ip_head.j0 (k + 6) all (if al then 70 else 69) (if al then [148, 4, 0, 0] else []) s d p t i al = some (hd s d p t i al all) := by
    simp only [ip_head.j0, ip_two.f, Option.bind_some]
    rw [addr_bytes_some, Option.bind_some, addr_bytes_some, Option.bind_some, wr64 (i := i) (by omega) (by omega)]
    have hf : ([[if al then 70 else 69, 0], [all / 256 % 256, all % 256], [i / 256 % 256, i % 256], [0, 0, t, p, 0, 0], abytes s, abytes d, if al then [148, 4, 0, 0] else []] : List (List Int)).flatten = raw s d p t i al all := by
      simp [raw]
    have hj : ip_joined.f [[if al then 70 else 69, 0], [all / 256 % 256, all % 256], [i / 256 % 256, i % 256], [0, 0, t, p, 0, 0], abytes s, abytes d, if al then [148, 4, 0, 0] else []] = some (raw s d p t i al all) := by
      unfold ip_joined.f
      rw [hf, raw_len, if_pos ⟨by simp, by cases al <;> simp [hlen]⟩]
    rw [hj, Option.bind_some, put_some (raw_byt h al all) (by rw [raw_len]; cases al <;> simp [hlen]) (by omega), if_neg (by rw [raw_len]; cases al <;> simp [hlen]), Option.bind_some]
    rfl
  unfold ip_head.f
  cases al with
  | true => rw [if_pos rfl]; simpa [ip_option.f] using hj
  | false => rw [if_neg (by simp)]; simpa using hj

/-- A frame. -/
def enc (s d p t i : Int) (al : Bool) (b : List Int) : List Int × Int :=
  if (hlen al : Int) + b.length > 1500 then ([], 7) else (hd s d p t i al (hlen al + b.length) ++ b, 0)
theorem encode_some {s d p t i : Int} (h : HOk s d p t i) (al : Bool) (b : List Int) (hb : b.length ≤ 140737488355328) (k : Nat) : ip_Encode.f (k + 6) s d p t i al b = some (enc s d p t i al b) := by
  unfold ip_Encode.f
  have hs : ip_size.f al = some (hlen al : Int) := by cases al <;> rfl
  have hl : hlen al ≤ 24 := by cases al <;> simp [hlen]
  rw [hs, Option.bind_some, wr64 (by omega) (by omega)]
  unfold enc
  by_cases c : (hlen al : Int) + b.length > 1500
  · rw [if_pos c, if_pos c]
  · rw [if_neg c, if_neg c, head_some h, Option.bind_some]
    unfold ip_joined.f
    have hf : ([hd s d p t i al (hlen al + b.length), b] : List (List Int)).flatten = hd s d p t i al (hlen al + b.length) ++ b := by simp
    rw [hf, if_pos ⟨by simp, by rw [List.length_append, hd_len]; omega⟩]
    rfl
end Go.Proofs.Ytlaanmkangikbaa
