/- The plain functions in use. Conditions: none. -/
import Derived.Test.YtnpnomlnajgbcaaGreatQ8S
